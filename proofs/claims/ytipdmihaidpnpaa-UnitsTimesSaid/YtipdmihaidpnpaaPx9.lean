-- WRITTEN by a program of this session over the kit's print (hprint.py): functions proved by hand stand among the printed ones
import Derived.Test.YtipdmihaidpnpaaPx0
import Derived.Test.YtipdmihaidpnpaaPx4
import Derived.Test.YtipdmihaidpnpaaPx6
import Derived.Test.YtipdmihaidpnpaaPx7
namespace Go.Proofs.Ytipdmihaidpnpaa.P
open Go.RowKit Go.Proofs.YtipdmihaidpnpaaW.PrintWords Go.Proofs.YtipdmihaidpnpaaW.PrintLast Go.Proofs.YtipdmihaidpnpaaW.PrintMore
attribute [local go_sem] max2_int min2_int max_two min_two max_three min_three max_four min_four   -- for this text's walks alone
set_option linter.unusedVariables false
set_option linter.unusedSimpArgs false

/-! ### flywheellaw02_MuldivBack: function 10 -/
def flywheellaw02_MuldivBack.l0 : Nat → Int → Int → Int → Int → Option (Bool)
  | 0, _, _, _, _ => none
  | k + 1, x0, x1, x2, x7 => if x7 ≤ 3 then (if x1 = 0 then ((muldiv_Do.f x0 x1 x2 x7).bind fun t198 => ((muldiv_Do.f x1 x0 x2 x7).bind fun t199 => (if t198 = t199 then (flywheellaw02_MuldivBack.l0 k x0 x1 x2 (wrap64 (x7 + 1))) else (some false)))) else ((muldiv_Do.f x0 x1 x1 x7).bind fun t200 => (if t200 = x0 then ((muldiv_Do.f x0 x1 x2 x7).bind fun t201 => ((muldiv_Do.f x1 x0 x2 x7).bind fun t202 => (if t201 = t202 then (flywheellaw02_MuldivBack.l0 k x0 x1 x2 (wrap64 (x7 + 1))) else (some false)))) else (some false)))) else ((muldiv_Do.f x0 x1 0 1).bind fun t195 => (if t195 = 0 then ((muldiv_Fits.f x0 x1 0 3).bind fun t196 => (if t196 = true then (some false) else ((flywheellaw02_wakes.f k).bind fun t197 => (some t197)))) else (some false)))
def flywheellaw02_MuldivBack.f (k : Nat) (a0 : Int) (a1 : Int) (a2 : Int) : Option (Bool) := flywheellaw02_MuldivBack.l0 k a0 a1 a2 1
theorem flywheellaw02_MuldivBack.mono_l : ∀ k, (∀ y0 y1 y2 y3, LeO (flywheellaw02_MuldivBack.l0 k y0 y1 y2 y3) (flywheellaw02_MuldivBack.l0 (k + 1) y0 y1 y2 y3))
  | 0 => fun _ _ _ _ r h => by simp [flywheellaw02_MuldivBack.l0] at h
  | k + 1 => by
    have ih0 := flywheellaw02_MuldivBack.mono_l k
    · intro y0 y1 y2 y3
      unfold flywheellaw02_MuldivBack.l0
      repeat' first
      | (with_reducible exact ih0 _ _ _ _)
      | (with_reducible exact flywheellaw02_wakes.mono _)
      | (with_reducible exact LeO.refl _)
      | (with_reducible exact LeO.none _)
      | (with_reducible refine LeO.ite ?_ ?_)
      | (with_reducible refine LeO.bind ?_ (fun _ => ?_))
      | exact ih0 _ _ _ _
      | exact flywheellaw02_wakes.mono _
      | exact LeO.none _
      | refine LeO.ite ?_ ?_
      | refine LeO.bind ?_ (fun _ => ?_)
theorem flywheellaw02_MuldivBack.mono : ∀ a0 a1 a2 k, LeO (flywheellaw02_MuldivBack.f k a0 a1 a2) (flywheellaw02_MuldivBack.f (k + 1) a0 a1 a2) := by
  intro a0 a1 a2 k
  have ih0 := flywheellaw02_MuldivBack.mono_l k
  unfold flywheellaw02_MuldivBack.f
  repeat' first
      | (with_reducible exact ih0 _ _ _ _)
      | (with_reducible exact flywheellaw02_wakes.mono _)
      | (with_reducible exact LeO.refl _)
      | (with_reducible exact LeO.none _)
      | (with_reducible refine LeO.ite ?_ ?_)
      | (with_reducible refine LeO.bind ?_ (fun _ => ?_))
      | exact ih0 _ _ _ _
      | exact flywheellaw02_wakes.mono _
      | exact LeO.none _
      | refine LeO.ite ?_ ?_
      | refine LeO.bind ?_ (fun _ => ?_)
set_option maxHeartbeats 8000000 in
set_option maxRecDepth 100000 in
theorem flywheellaw02_MuldivBack.calls (k : Nat) (a0 : Int) (a1 : Int) (a2 : Int) (r : Bool) (w : World) (h : flywheellaw02_MuldivBack.f k a0 a1 a2 = some r) :
    Calls Try.prog 10 #[.int .i64 a0, .int .i64 a1, .int .i64 a2] w fun e w' => e = .returned (.bool r) ∧ Below w.heap.size w w' := by
  have HB := Aside0.mk (Below.refl w.heap.size w)
  have H : (flywheellaw02_MuldivBack.l0 k a0 a1 a2 1) = some r := h
  clear h
  have H' := Aside0.mk H
  clear H
  go_enter Try.func10, Try.ntmps10
  go_wp2
  go_loopg [7] k (fun kq v7 w' => ∃ (x7_1 : Int), v7 = .int .i64 x7_1 ∧ Aside0 (flywheellaw02_MuldivBack.l0 kq a0 a1 a2 x7_1 = some r) ∧ Aside0 (kq ≤ k) ∧ Aside0 (Below w.heap.size w w'))
  case atStart => exact ⟨(1), (by first | rfl | (simp; done) | (simp [*]; done)), H', ⟨Nat.le_refl _⟩, ⟨by repeat (first | (with_reducible first | exact HB.out | apply below_alloc | apply pw_below_drewN | apply below_drew1) | exact HB.out)⟩⟩
  case round =>
    clear H'
    try clear c1
    try clear p2
    obtain ⟨x7_1, rfl, HA, HK1, HB⟩ := hrel
    cases gk with
    | zero => exact absurd HA.out (by simp [flywheellaw02_MuldivBack.l0])
    | succ k1 =>
      have H := HA.out
      clear HA
      simp only [flywheellaw02_MuldivBack.l0] at H
      by_cases c4 : x7_1 ≤ 3
      · rw [if_pos c4] at H
        have c4b0 : decide (x7_1 ≤ 3) = true := decide_eq_true c4
        clear c4
        by_cases c5 : a1 = 0
        · rw [if_pos c5] at H
          have c5b0 : (a1 == 0) = true := beq_iff_eq.mpr c5
          have c5b1 : (a1 != 0) = false := bne_eq_false_iff_eq.mpr c5
          clear c5
          replace H := Option.bind_eq_some_iff.mp H
          obtain ⟨t198, A60, H⟩ := H
          replace H : ((muldiv_Do.f a1 a0 a2 x7_1).bind fun t199 => (if t198 = t199 then (flywheellaw02_MuldivBack.l0 k1 a0 a1 a2 (wrap64 (x7_1 + 1))) else (some false))) = some r := H
          have A6 := Aside0.mk A60
          clear A60
          replace H := Option.bind_eq_some_iff.mp H
          obtain ⟨t199, A70, H⟩ := H
          replace H : (if t198 = t199 then (flywheellaw02_MuldivBack.l0 k1 a0 a1 a2 (wrap64 (x7_1 + 1))) else (some false)) = some r := H
          have A7 := Aside0.mk A70
          clear A70
          by_cases c8 : t198 = t199
          · rw [if_pos c8] at H
            have c8b0 : (t198 == t199) = true := beq_iff_eq.mpr c8
            have c8b1 : (t198 != t199) = false := bne_eq_false_iff_eq.mpr c8
            clear c8
            have H' := Aside0.mk H
            clear H
            go_wp2_with (first | (go_at_call 24; (with_reducible refine (muldiv_Do.calls a0 a1 a2 x7_1 t198 _ A6.out).mono ?_); rintro e w9 ⟨rfl, hb⟩; have n0_ := Aside0.mk (below_step (by repeat (first | (with_reducible first | exact HB.out | apply below_alloc | apply pw_below_drewN | apply below_drew1) | exact HB.out)) hb); clear HB; have HB := n0_; clear n0_; (try clear hb); (try clear hb2); (try clear hk); (try clear hi)) | (go_at_call 24; (with_reducible refine (muldiv_Do.calls a1 a0 a2 x7_1 t199 _ A7.out).mono ?_); rintro e w10 ⟨rfl, hb⟩; have n0_ := Aside0.mk (below_step (by repeat (first | (with_reducible first | exact HB.out | apply below_alloc | apply pw_below_drewN | apply below_drew1) | exact HB.out)) hb); clear HB; have HB := n0_; clear n0_; (try clear hb); (try clear hb2); (try clear hk); (try clear hi)))
            go_roundg k1
            case measure => have := HK1.out; omega
            case rel => exact ⟨(wrap64 (x7_1 + 1)), (by first | rfl | (simp; done) | (simp [*]; done)), H', ⟨by have := HK1.out; omega⟩, ⟨by repeat (first | (with_reducible first | exact HB.out | apply below_alloc | apply pw_below_drewN | apply below_drew1) | exact HB.out)⟩⟩
          · rw [if_neg c8] at H
            have c8b0 : (t198 == t199) = false := beq_eq_false_iff_ne.mpr c8
            have c8b1 : (t198 != t199) = true := bne_iff_ne.mpr c8
            obtain rfl := Option.some.inj H
            go_wp2_with (first | (go_at_call 24; (with_reducible refine (muldiv_Do.calls a0 a1 a2 x7_1 t198 _ A6.out).mono ?_); rintro e w11 ⟨rfl, hb⟩; have n0_ := Aside0.mk (below_step (by repeat (first | (with_reducible first | exact HB.out | apply below_alloc | apply pw_below_drewN | apply below_drew1) | exact HB.out)) hb); clear HB; have HB := n0_; clear n0_; (try clear hb); (try clear hb2); (try clear hk); (try clear hi)) | (go_at_call 24; (with_reducible refine (muldiv_Do.calls a1 a0 a2 x7_1 t199 _ A7.out).mono ?_); rintro e w12 ⟨rfl, hb⟩; have n0_ := Aside0.mk (below_step (by repeat (first | (with_reducible first | exact HB.out | apply below_alloc | apply pw_below_drewN | apply below_drew1) | exact HB.out)) hb); clear HB; have HB := n0_; clear n0_; (try clear hb); (try clear hb2); (try clear hk); (try clear hi)))
            go_ret
            exact ⟨by first | rfl | (simp [errW_none, errW_some] <;> rfl) | (simp [*, errW_none, errW_some] <;> rfl), by repeat (first | (with_reducible first | exact HB.out | apply below_alloc | apply pw_below_drewN | apply below_drew1) | exact HB.out)⟩
        · rw [if_neg c5] at H
          have c5b0 : (a1 == 0) = false := beq_eq_false_iff_ne.mpr c5
          have c5b1 : (a1 != 0) = true := bne_iff_ne.mpr c5
          replace H := Option.bind_eq_some_iff.mp H
          obtain ⟨t200, A130, H⟩ := H
          replace H : (if t200 = a0 then ((muldiv_Do.f a0 a1 a2 x7_1).bind fun t201 => ((muldiv_Do.f a1 a0 a2 x7_1).bind fun t202 => (if t201 = t202 then (flywheellaw02_MuldivBack.l0 k1 a0 a1 a2 (wrap64 (x7_1 + 1))) else (some false)))) else (some false)) = some r := H
          have A13 := Aside0.mk A130
          clear A130
          by_cases c14 : t200 = a0
          · rw [if_pos c14] at H
            have c14b0 : (t200 == a0) = true := beq_iff_eq.mpr c14
            have c14b1 : (t200 != a0) = false := bne_eq_false_iff_eq.mpr c14
            clear c14
            replace H := Option.bind_eq_some_iff.mp H
            obtain ⟨t201, A150, H⟩ := H
            replace H : ((muldiv_Do.f a1 a0 a2 x7_1).bind fun t202 => (if t201 = t202 then (flywheellaw02_MuldivBack.l0 k1 a0 a1 a2 (wrap64 (x7_1 + 1))) else (some false))) = some r := H
            have A15 := Aside0.mk A150
            clear A150
            replace H := Option.bind_eq_some_iff.mp H
            obtain ⟨t202, A160, H⟩ := H
            replace H : (if t201 = t202 then (flywheellaw02_MuldivBack.l0 k1 a0 a1 a2 (wrap64 (x7_1 + 1))) else (some false)) = some r := H
            have A16 := Aside0.mk A160
            clear A160
            by_cases c17 : t201 = t202
            · rw [if_pos c17] at H
              have c17b0 : (t201 == t202) = true := beq_iff_eq.mpr c17
              have c17b1 : (t201 != t202) = false := bne_eq_false_iff_eq.mpr c17
              clear c17
              have H' := Aside0.mk H
              clear H
              go_wp2_with (first | (go_at_call 24; (with_reducible refine (muldiv_Do.calls a0 a1 a1 x7_1 t200 _ A13.out).mono ?_); rintro e w18 ⟨rfl, hb⟩; have n0_ := Aside0.mk (below_step (by repeat (first | (with_reducible first | exact HB.out | apply below_alloc | apply pw_below_drewN | apply below_drew1) | exact HB.out)) hb); clear HB; have HB := n0_; clear n0_; (try clear hb); (try clear hb2); (try clear hk); (try clear hi)) | (go_at_call 24; (with_reducible refine (muldiv_Do.calls a0 a1 a2 x7_1 t201 _ A15.out).mono ?_); rintro e w19 ⟨rfl, hb⟩; have n0_ := Aside0.mk (below_step (by repeat (first | (with_reducible first | exact HB.out | apply below_alloc | apply pw_below_drewN | apply below_drew1) | exact HB.out)) hb); clear HB; have HB := n0_; clear n0_; (try clear hb); (try clear hb2); (try clear hk); (try clear hi)) | (go_at_call 24; (with_reducible refine (muldiv_Do.calls a1 a0 a2 x7_1 t202 _ A16.out).mono ?_); rintro e w20 ⟨rfl, hb⟩; have n0_ := Aside0.mk (below_step (by repeat (first | (with_reducible first | exact HB.out | apply below_alloc | apply pw_below_drewN | apply below_drew1) | exact HB.out)) hb); clear HB; have HB := n0_; clear n0_; (try clear hb); (try clear hb2); (try clear hk); (try clear hi)))
              go_roundg k1
              case measure => have := HK1.out; omega
              case rel => exact ⟨(wrap64 (x7_1 + 1)), (by first | rfl | (simp; done) | (simp [*]; done)), H', ⟨by have := HK1.out; omega⟩, ⟨by repeat (first | (with_reducible first | exact HB.out | apply below_alloc | apply pw_below_drewN | apply below_drew1) | exact HB.out)⟩⟩
            · rw [if_neg c17] at H
              have c17b0 : (t201 == t202) = false := beq_eq_false_iff_ne.mpr c17
              have c17b1 : (t201 != t202) = true := bne_iff_ne.mpr c17
              obtain rfl := Option.some.inj H
              go_wp2_with (first | (go_at_call 24; (with_reducible refine (muldiv_Do.calls a0 a1 a1 x7_1 t200 _ A13.out).mono ?_); rintro e w21 ⟨rfl, hb⟩; have n0_ := Aside0.mk (below_step (by repeat (first | (with_reducible first | exact HB.out | apply below_alloc | apply pw_below_drewN | apply below_drew1) | exact HB.out)) hb); clear HB; have HB := n0_; clear n0_; (try clear hb); (try clear hb2); (try clear hk); (try clear hi)) | (go_at_call 24; (with_reducible refine (muldiv_Do.calls a0 a1 a2 x7_1 t201 _ A15.out).mono ?_); rintro e w22 ⟨rfl, hb⟩; have n0_ := Aside0.mk (below_step (by repeat (first | (with_reducible first | exact HB.out | apply below_alloc | apply pw_below_drewN | apply below_drew1) | exact HB.out)) hb); clear HB; have HB := n0_; clear n0_; (try clear hb); (try clear hb2); (try clear hk); (try clear hi)) | (go_at_call 24; (with_reducible refine (muldiv_Do.calls a1 a0 a2 x7_1 t202 _ A16.out).mono ?_); rintro e w23 ⟨rfl, hb⟩; have n0_ := Aside0.mk (below_step (by repeat (first | (with_reducible first | exact HB.out | apply below_alloc | apply pw_below_drewN | apply below_drew1) | exact HB.out)) hb); clear HB; have HB := n0_; clear n0_; (try clear hb); (try clear hb2); (try clear hk); (try clear hi)))
              go_ret
              exact ⟨by first | rfl | (simp [errW_none, errW_some] <;> rfl) | (simp [*, errW_none, errW_some] <;> rfl), by repeat (first | (with_reducible first | exact HB.out | apply below_alloc | apply pw_below_drewN | apply below_drew1) | exact HB.out)⟩
          · rw [if_neg c14] at H
            have c14b0 : (t200 == a0) = false := beq_eq_false_iff_ne.mpr c14
            have c14b1 : (t200 != a0) = true := bne_iff_ne.mpr c14
            obtain rfl := Option.some.inj H
            go_wp2_with (first | (go_at_call 24; (with_reducible refine (muldiv_Do.calls a0 a1 a1 x7_1 t200 _ A13.out).mono ?_); rintro e w24 ⟨rfl, hb⟩; have n0_ := Aside0.mk (below_step (by repeat (first | (with_reducible first | exact HB.out | apply below_alloc | apply pw_below_drewN | apply below_drew1) | exact HB.out)) hb); clear HB; have HB := n0_; clear n0_; (try clear hb); (try clear hb2); (try clear hk); (try clear hi)))
            go_ret
            exact ⟨by first | rfl | (simp [errW_none, errW_some] <;> rfl) | (simp [*, errW_none, errW_some] <;> rfl), by repeat (first | (with_reducible first | exact HB.out | apply below_alloc | apply pw_below_drewN | apply below_drew1) | exact HB.out)⟩
      · rw [if_neg c4] at H
        have c4b0 : decide (x7_1 ≤ 3) = false := decide_eq_false c4
        clear c4
        replace H := Option.bind_eq_some_iff.mp H
        obtain ⟨t195, A250, H⟩ := H
        replace H : (if t195 = 0 then ((muldiv_Fits.f a0 a1 0 3).bind fun t196 => (if t196 = true then (some false) else ((flywheellaw02_wakes.f k1).bind fun t197 => (some t197)))) else (some false)) = some r := H
        have A25 := Aside0.mk A250
        clear A250
        by_cases c26 : t195 = 0
        · rw [if_pos c26] at H
          have c26b0 : (t195 == 0) = true := beq_iff_eq.mpr c26
          have c26b1 : (t195 != 0) = false := bne_eq_false_iff_eq.mpr c26
          clear c26
          replace H := Option.bind_eq_some_iff.mp H
          obtain ⟨t196, A270, H⟩ := H
          replace H : (if t196 = true then (some false) else ((flywheellaw02_wakes.f k1).bind fun t197 => (some t197))) = some r := H
          have A27 := Aside0.mk A270
          clear A270
          by_cases c28 : t196 = true
          · subst c28
            have H1 : (some false) = some r := by rw [if_pos rfl] at H; exact H
            clear H
            have H := H1
            clear H1
            obtain rfl := Option.some.inj H
            go_wp2_with (first | ((with_reducible refine gate_callee (f := 24) rfl ?_); refine goesL_ (some 38) rfl rfl Try.func24 (by kernel_rfl) rfl #[.int .i64 a0, .int .i64 a1, .int .i64 0, .int .i64 1] rfl (by (try simp only [List.map_toArray, List.map_cons, List.map_nil]); first | done | rfl | (simp only [List.length_drop, List.length_take]; rfl)) ?_; (with_reducible refine (muldiv_Do.calls a0 a1 0 1 t195 _ A25.out).mono ?_); rintro e w29 ⟨rfl, hb⟩; refine ⟨_, rfl, ?_⟩; have n0_ := Aside0.mk (below_step (by repeat (first | (with_reducible first | exact HB.out | apply below_alloc | apply pw_below_drewN | apply below_drew1) | exact HB.out)) hb); clear HB; have HB := n0_; clear n0_; (try clear hb); (try clear hb2); (try clear hk); (try clear hi)) | (go_at_call 26; (with_reducible refine (muldiv_Fits.calls a0 a1 0 3 true _ A27.out).mono ?_); rintro e w30 ⟨rfl, hb⟩; have n0_ := Aside0.mk (below_step (by repeat (first | (with_reducible first | exact HB.out | apply below_alloc | apply pw_below_drewN | apply below_drew1) | exact HB.out)) hb); clear HB; have HB := n0_; clear n0_; (try clear hb); (try clear hb2); (try clear hk); (try clear hi)))
            go_ret
            exact ⟨by first | rfl | (simp [errW_none, errW_some] <;> rfl) | (simp [*, errW_none, errW_some] <;> rfl), by repeat (first | (with_reducible first | exact HB.out | apply below_alloc | apply pw_below_drewN | apply below_drew1) | exact HB.out)⟩
          · replace c28 := Bool.eq_false_iff.mpr c28
            subst c28
            have H1 : ((flywheellaw02_wakes.f k1).bind fun t197 => (some t197)) = some r := by rw [if_neg (show ¬ (false = true) by decide)] at H; exact H
            clear H
            have H := H1
            clear H1
            replace H := Option.bind_eq_some_iff.mp H
            obtain ⟨t197, A310, H⟩ := H
            replace H : (some t197) = some r := H
            have A31 := Aside0.mk A310
            clear A310
            obtain rfl := Option.some.inj H
            go_wp2_with (first | ((with_reducible refine gate_callee (f := 24) rfl ?_); refine goesL_ (some 38) rfl rfl Try.func24 (by kernel_rfl) rfl #[.int .i64 a0, .int .i64 a1, .int .i64 0, .int .i64 1] rfl (by (try simp only [List.map_toArray, List.map_cons, List.map_nil]); first | done | rfl | (simp only [List.length_drop, List.length_take]; rfl)) ?_; (with_reducible refine (muldiv_Do.calls a0 a1 0 1 t195 _ A25.out).mono ?_); rintro e w32 ⟨rfl, hb⟩; refine ⟨_, rfl, ?_⟩; have n0_ := Aside0.mk (below_step (by repeat (first | (with_reducible first | exact HB.out | apply below_alloc | apply pw_below_drewN | apply below_drew1) | exact HB.out)) hb); clear HB; have HB := n0_; clear n0_; (try clear hb); (try clear hb2); (try clear hk); (try clear hi)) | (go_at_call 26; (with_reducible refine (muldiv_Fits.calls a0 a1 0 3 false _ A27.out).mono ?_); rintro e w33 ⟨rfl, hb⟩; have n0_ := Aside0.mk (below_step (by repeat (first | (with_reducible first | exact HB.out | apply below_alloc | apply pw_below_drewN | apply below_drew1) | exact HB.out)) hb); clear HB; have HB := n0_; clear n0_; (try clear hb); (try clear hb2); (try clear hk); (try clear hi)) | (go_at_call 22; (with_reducible refine (flywheellaw02_wakes.calls k1  t197 _ A31.out).mono ?_); rintro e w34 ⟨rfl, hb⟩; have n0_ := Aside0.mk (below_step (by repeat (first | (with_reducible first | exact HB.out | apply below_alloc | apply pw_below_drewN | apply below_drew1) | exact HB.out)) hb); clear HB; have HB := n0_; clear n0_; (try clear hb); (try clear hb2); (try clear hk); (try clear hi)))
            go_ret
            exact ⟨by first | rfl | (simp [errW_none, errW_some] <;> rfl) | (simp [*, errW_none, errW_some] <;> rfl), by repeat (first | (with_reducible first | exact HB.out | apply below_alloc | apply pw_below_drewN | apply below_drew1) | exact HB.out)⟩
        · rw [if_neg c26] at H
          have c26b0 : (t195 == 0) = false := beq_eq_false_iff_ne.mpr c26
          have c26b1 : (t195 != 0) = true := bne_iff_ne.mpr c26
          obtain rfl := Option.some.inj H
          go_wp2_with (first | ((with_reducible refine gate_callee (f := 24) rfl ?_); refine goesL_ (some 38) rfl rfl Try.func24 (by kernel_rfl) rfl #[.int .i64 a0, .int .i64 a1, .int .i64 0, .int .i64 1] rfl (by (try simp only [List.map_toArray, List.map_cons, List.map_nil]); first | done | rfl | (simp only [List.length_drop, List.length_take]; rfl)) ?_; (with_reducible refine (muldiv_Do.calls a0 a1 0 1 t195 _ A25.out).mono ?_); rintro e w35 ⟨rfl, hb⟩; refine ⟨_, rfl, ?_⟩; have n0_ := Aside0.mk (below_step (by repeat (first | (with_reducible first | exact HB.out | apply below_alloc | apply pw_below_drewN | apply below_drew1) | exact HB.out)) hb); clear HB; have HB := n0_; clear n0_; (try clear hb); (try clear hb2); (try clear hk); (try clear hi)))
          go_ret
          exact ⟨by first | rfl | (simp [errW_none, errW_some] <;> rfl) | (simp [*, errW_none, errW_some] <;> rfl), by repeat (first | (with_reducible first | exact HB.out | apply below_alloc | apply pw_below_drewN | apply below_drew1) | exact HB.out)⟩

/-- THE ONE PURE STATEMENT of flywheellaw02_MuldivBack: yours. -/
def flywheellaw02_MuldivBack.Pure : Prop := ∀ (a0 : Int) (a1 : Int) (a2 : Int), (Lit.int .i64 a0).wf = true → (Lit.int .i64 a1).wf = true → (Lit.int .i64 a2).wf = true → ∃ k, flywheellaw02_MuldivBack.f k a0 a1 a2 = some true
theorem flywheellaw02_MuldivBack.walk (P : flywheellaw02_MuldivBack.Pure) (a0 : Int) (a1 : Int) (a2 : Int) (w : World) (w0 : (Lit.int .i64 a0).wf = true) (w1 : (Lit.int .i64 a1).wf = true) (w2 : (Lit.int .i64 a2).wf = true) :
    Calls Try.prog 10 #[.int .i64 a0, .int .i64 a1, .int .i64 a2] w fun e w' => e = .returned (.bool true) ∧ Below w.heap.size w w' := by
  obtain ⟨k, h⟩ := P a0 a1 a2 w0 w1 w2
  refine (flywheellaw02_MuldivBack.calls k a0 a1 a2 true w h).mono ?_
  rintro e w' ⟨rfl, hd⟩
  exact ⟨rfl, hd⟩

/-! ### flywheellaw02_MuldivTurns: function 11 -/
def flywheellaw02_MuldivTurns.f (k : Nat) (a0 : Int) (a1 : Int) (a2 : Int) : Option (Bool) := if (wrap64 (a2)) = 0 then ((muldiv_Do.f (wrap64 (a0)) (wrap64 (a1)) (wrap64 (a2)) 1).bind fun t203 => (if t203 = 0 then ((flywheellaw02_wakes.f k).bind fun t204 => (some t204)) else (some false))) else ((muldiv_Do.f (wrap64 (a0)) (wrap64 (a1)) (wrap64 (a2)) 1).bind fun t205 => ((muldiv_Do.f (wrap64 (-(wrap64 (a0)))) (wrap64 (a1)) (wrap64 (a2)) 3).bind fun t206 => (if (wrap64 (a2)) < 0 then (if t205 = (wrap64 (-t206)) then (if (wrap64 (-(wrap64 ((wrap64 ((wrap64 (a0)) * (wrap64 (a1)))) - (wrap64 (t205 * (wrap64 (a2)))))))) ≥ 0 then (if (wrap64 (-(wrap64 ((wrap64 ((wrap64 (a0)) * (wrap64 (a1)))) - (wrap64 (t205 * (wrap64 (a2)))))))) < (wrap64 (-(wrap64 (a2)))) then ((muldiv_Fits.f (wrap64 (a0)) (wrap64 (a1)) (wrap64 (a2)) 2).bind fun t207 => (if t207 = true then ((flywheellaw02_wakes.f k).bind fun t208 => (some t208)) else (some false))) else (some false)) else (some false)) else (some false)) else (if t205 = (wrap64 (-t206)) then (if (wrap64 ((wrap64 ((wrap64 (a0)) * (wrap64 (a1)))) - (wrap64 (t205 * (wrap64 (a2)))))) ≥ 0 then (if (wrap64 ((wrap64 ((wrap64 (a0)) * (wrap64 (a1)))) - (wrap64 (t205 * (wrap64 (a2)))))) < (wrap64 (a2)) then ((muldiv_Fits.f (wrap64 (a0)) (wrap64 (a1)) (wrap64 (a2)) 2).bind fun t209 => (if t209 = true then ((flywheellaw02_wakes.f k).bind fun t210 => (some t210)) else (some false))) else (some false)) else (some false)) else (some false)))))
theorem flywheellaw02_MuldivTurns.mono : ∀ a0 a1 a2 k, LeO (flywheellaw02_MuldivTurns.f k a0 a1 a2) (flywheellaw02_MuldivTurns.f (k + 1) a0 a1 a2) := by
  intro a0 a1 a2 k
  unfold flywheellaw02_MuldivTurns.f
  repeat' first
      | (with_reducible exact flywheellaw02_wakes.mono _)
      | (with_reducible exact LeO.refl _)
      | (with_reducible exact LeO.none _)
      | (with_reducible refine LeO.ite ?_ ?_)
      | (with_reducible refine LeO.bind ?_ (fun _ => ?_))
      | exact flywheellaw02_wakes.mono _
      | exact LeO.none _
      | refine LeO.ite ?_ ?_
      | refine LeO.bind ?_ (fun _ => ?_)
set_option maxHeartbeats 8000000 in
set_option maxRecDepth 100000 in
theorem flywheellaw02_MuldivTurns.calls (k : Nat) (a0 : Int) (a1 : Int) (a2 : Int) (r : Bool) (w : World) (h : flywheellaw02_MuldivTurns.f k a0 a1 a2 = some r) :
    Calls Try.prog 11 #[.int .i32 a0, .int .i32 a1, .int .i32 a2] w fun e w' => e = .returned (.bool r) ∧ Below w.heap.size w w' := by
  have HB := Aside0.mk (Below.refl w.heap.size w)
  have H : (if (wrap64 (a2)) = 0 then ((muldiv_Do.f (wrap64 (a0)) (wrap64 (a1)) (wrap64 (a2)) 1).bind fun t203 => (if t203 = 0 then ((flywheellaw02_wakes.f k).bind fun t204 => (some t204)) else (some false))) else ((muldiv_Do.f (wrap64 (a0)) (wrap64 (a1)) (wrap64 (a2)) 1).bind fun t205 => ((muldiv_Do.f (wrap64 (-(wrap64 (a0)))) (wrap64 (a1)) (wrap64 (a2)) 3).bind fun t206 => (if (wrap64 (a2)) < 0 then (if t205 = (wrap64 (-t206)) then (if (wrap64 (-(wrap64 ((wrap64 ((wrap64 (a0)) * (wrap64 (a1)))) - (wrap64 (t205 * (wrap64 (a2)))))))) ≥ 0 then (if (wrap64 (-(wrap64 ((wrap64 ((wrap64 (a0)) * (wrap64 (a1)))) - (wrap64 (t205 * (wrap64 (a2)))))))) < (wrap64 (-(wrap64 (a2)))) then ((muldiv_Fits.f (wrap64 (a0)) (wrap64 (a1)) (wrap64 (a2)) 2).bind fun t207 => (if t207 = true then ((flywheellaw02_wakes.f k).bind fun t208 => (some t208)) else (some false))) else (some false)) else (some false)) else (some false)) else (if t205 = (wrap64 (-t206)) then (if (wrap64 ((wrap64 ((wrap64 (a0)) * (wrap64 (a1)))) - (wrap64 (t205 * (wrap64 (a2)))))) ≥ 0 then (if (wrap64 ((wrap64 ((wrap64 (a0)) * (wrap64 (a1)))) - (wrap64 (t205 * (wrap64 (a2)))))) < (wrap64 (a2)) then ((muldiv_Fits.f (wrap64 (a0)) (wrap64 (a1)) (wrap64 (a2)) 2).bind fun t209 => (if t209 = true then ((flywheellaw02_wakes.f k).bind fun t210 => (some t210)) else (some false))) else (some false)) else (some false)) else (some false)))))) = some r := h
  clear h
  by_cases c4 : (wrap64 (a2)) = 0
  · rw [if_pos c4] at H
    have c4b0 : ((wrap64 (a2)) == 0) = true := beq_iff_eq.mpr c4
    have c4b1 : ((wrap64 (a2)) != 0) = false := bne_eq_false_iff_eq.mpr c4
    clear c4
    replace H := Option.bind_eq_some_iff.mp H
    obtain ⟨t203, A50, H⟩ := H
    replace H : (if t203 = 0 then ((flywheellaw02_wakes.f k).bind fun t204 => (some t204)) else (some false)) = some r := H
    have A5 := Aside0.mk A50
    clear A50
    by_cases c6 : t203 = 0
    · rw [if_pos c6] at H
      have c6b0 : (t203 == 0) = true := beq_iff_eq.mpr c6
      have c6b1 : (t203 != 0) = false := bne_eq_false_iff_eq.mpr c6
      clear c6
      replace H := Option.bind_eq_some_iff.mp H
      obtain ⟨t204, A70, H⟩ := H
      replace H : (some t204) = some r := H
      have A7 := Aside0.mk A70
      clear A70
      obtain rfl := Option.some.inj H
      go_enter Try.func11, Try.ntmps11
      go_wp2_with (first | ((with_reducible refine gate_callee (f := 24) rfl ?_); refine goesL_ (some 24) rfl rfl Try.func24 (by kernel_rfl) rfl #[.int .i64 (wrap64 (a0)), .int .i64 (wrap64 (a1)), .int .i64 (wrap64 (a2)), .int .i64 1] rfl (by (try simp only [List.map_toArray, List.map_cons, List.map_nil]); first | done | rfl | (simp only [List.length_drop, List.length_take]; rfl)) ?_; (with_reducible refine (muldiv_Do.calls (wrap64 (a0)) (wrap64 (a1)) (wrap64 (a2)) 1 t203 _ A5.out).mono ?_); rintro e w8 ⟨rfl, hb⟩; refine ⟨_, rfl, ?_⟩; have n0_ := Aside0.mk (below_step (by repeat (first | (with_reducible first | exact HB.out | apply below_alloc | apply pw_below_drewN | apply below_drew1) | exact HB.out)) hb); clear HB; have HB := n0_; clear n0_; (try clear hb); (try clear hb2); (try clear hk); (try clear hi)) | (go_at_call 22; (with_reducible refine (flywheellaw02_wakes.calls k  t204 _ A7.out).mono ?_); rintro e w9 ⟨rfl, hb⟩; have n0_ := Aside0.mk (below_step (by repeat (first | (with_reducible first | exact HB.out | apply below_alloc | apply pw_below_drewN | apply below_drew1) | exact HB.out)) hb); clear HB; have HB := n0_; clear n0_; (try clear hb); (try clear hb2); (try clear hk); (try clear hi)))
      go_ret
      exact ⟨by first | rfl | (simp [errW_none, errW_some] <;> rfl) | (simp [*, errW_none, errW_some] <;> rfl), by repeat (first | (with_reducible first | exact HB.out | apply below_alloc | apply pw_below_drewN | apply below_drew1) | exact HB.out)⟩
    · rw [if_neg c6] at H
      have c6b0 : (t203 == 0) = false := beq_eq_false_iff_ne.mpr c6
      have c6b1 : (t203 != 0) = true := bne_iff_ne.mpr c6
      obtain rfl := Option.some.inj H
      go_enter Try.func11, Try.ntmps11
      go_wp2_with (first | ((with_reducible refine gate_callee (f := 24) rfl ?_); refine goesL_ (some 24) rfl rfl Try.func24 (by kernel_rfl) rfl #[.int .i64 (wrap64 (a0)), .int .i64 (wrap64 (a1)), .int .i64 (wrap64 (a2)), .int .i64 1] rfl (by (try simp only [List.map_toArray, List.map_cons, List.map_nil]); first | done | rfl | (simp only [List.length_drop, List.length_take]; rfl)) ?_; (with_reducible refine (muldiv_Do.calls (wrap64 (a0)) (wrap64 (a1)) (wrap64 (a2)) 1 t203 _ A5.out).mono ?_); rintro e w10 ⟨rfl, hb⟩; refine ⟨_, rfl, ?_⟩; have n0_ := Aside0.mk (below_step (by repeat (first | (with_reducible first | exact HB.out | apply below_alloc | apply pw_below_drewN | apply below_drew1) | exact HB.out)) hb); clear HB; have HB := n0_; clear n0_; (try clear hb); (try clear hb2); (try clear hk); (try clear hi)))
      go_ret
      exact ⟨by first | rfl | (simp [errW_none, errW_some] <;> rfl) | (simp [*, errW_none, errW_some] <;> rfl), by repeat (first | (with_reducible first | exact HB.out | apply below_alloc | apply pw_below_drewN | apply below_drew1) | exact HB.out)⟩
  · rw [if_neg c4] at H
    have c4b0 : ((wrap64 (a2)) == 0) = false := beq_eq_false_iff_ne.mpr c4
    have c4b1 : ((wrap64 (a2)) != 0) = true := bne_iff_ne.mpr c4
    replace H := Option.bind_eq_some_iff.mp H
    obtain ⟨t205, A110, H⟩ := H
    replace H : ((muldiv_Do.f (wrap64 (-(wrap64 (a0)))) (wrap64 (a1)) (wrap64 (a2)) 3).bind fun t206 => (if (wrap64 (a2)) < 0 then (if t205 = (wrap64 (-t206)) then (if (wrap64 (-(wrap64 ((wrap64 ((wrap64 (a0)) * (wrap64 (a1)))) - (wrap64 (t205 * (wrap64 (a2)))))))) ≥ 0 then (if (wrap64 (-(wrap64 ((wrap64 ((wrap64 (a0)) * (wrap64 (a1)))) - (wrap64 (t205 * (wrap64 (a2)))))))) < (wrap64 (-(wrap64 (a2)))) then ((muldiv_Fits.f (wrap64 (a0)) (wrap64 (a1)) (wrap64 (a2)) 2).bind fun t207 => (if t207 = true then ((flywheellaw02_wakes.f k).bind fun t208 => (some t208)) else (some false))) else (some false)) else (some false)) else (some false)) else (if t205 = (wrap64 (-t206)) then (if (wrap64 ((wrap64 ((wrap64 (a0)) * (wrap64 (a1)))) - (wrap64 (t205 * (wrap64 (a2)))))) ≥ 0 then (if (wrap64 ((wrap64 ((wrap64 (a0)) * (wrap64 (a1)))) - (wrap64 (t205 * (wrap64 (a2)))))) < (wrap64 (a2)) then ((muldiv_Fits.f (wrap64 (a0)) (wrap64 (a1)) (wrap64 (a2)) 2).bind fun t209 => (if t209 = true then ((flywheellaw02_wakes.f k).bind fun t210 => (some t210)) else (some false))) else (some false)) else (some false)) else (some false)))) = some r := H
    have A11 := Aside0.mk A110
    clear A110
    replace H := Option.bind_eq_some_iff.mp H
    obtain ⟨t206, A120, H⟩ := H
    replace H : (if (wrap64 (a2)) < 0 then (if t205 = (wrap64 (-t206)) then (if (wrap64 (-(wrap64 ((wrap64 ((wrap64 (a0)) * (wrap64 (a1)))) - (wrap64 (t205 * (wrap64 (a2)))))))) ≥ 0 then (if (wrap64 (-(wrap64 ((wrap64 ((wrap64 (a0)) * (wrap64 (a1)))) - (wrap64 (t205 * (wrap64 (a2)))))))) < (wrap64 (-(wrap64 (a2)))) then ((muldiv_Fits.f (wrap64 (a0)) (wrap64 (a1)) (wrap64 (a2)) 2).bind fun t207 => (if t207 = true then ((flywheellaw02_wakes.f k).bind fun t208 => (some t208)) else (some false))) else (some false)) else (some false)) else (some false)) else (if t205 = (wrap64 (-t206)) then (if (wrap64 ((wrap64 ((wrap64 (a0)) * (wrap64 (a1)))) - (wrap64 (t205 * (wrap64 (a2)))))) ≥ 0 then (if (wrap64 ((wrap64 ((wrap64 (a0)) * (wrap64 (a1)))) - (wrap64 (t205 * (wrap64 (a2)))))) < (wrap64 (a2)) then ((muldiv_Fits.f (wrap64 (a0)) (wrap64 (a1)) (wrap64 (a2)) 2).bind fun t209 => (if t209 = true then ((flywheellaw02_wakes.f k).bind fun t210 => (some t210)) else (some false))) else (some false)) else (some false)) else (some false))) = some r := H
    have A12 := Aside0.mk A120
    clear A120
    by_cases c13 : (wrap64 (a2)) < 0
    · rw [if_pos c13] at H
      have c13b0 : decide ((wrap64 (a2)) < 0) = true := decide_eq_true c13
      clear c13
      by_cases c14 : t205 = (wrap64 (-t206))
      · rw [if_pos c14] at H
        have c14b0 : (t205 == (wrap64 (-t206))) = true := beq_iff_eq.mpr c14
        have c14b1 : (t205 != (wrap64 (-t206))) = false := bne_eq_false_iff_eq.mpr c14
        clear c14
        by_cases c15 : (wrap64 (-(wrap64 ((wrap64 ((wrap64 (a0)) * (wrap64 (a1)))) - (wrap64 (t205 * (wrap64 (a2)))))))) ≥ 0
        · rw [if_pos c15] at H
          have c15b0 : decide (0 ≤ (wrap64 (-(wrap64 ((wrap64 ((wrap64 (a0)) * (wrap64 (a1)))) - (wrap64 (t205 * (wrap64 (a2))))))))) = true := decide_eq_true c15
          clear c15
          by_cases c16 : (wrap64 (-(wrap64 ((wrap64 ((wrap64 (a0)) * (wrap64 (a1)))) - (wrap64 (t205 * (wrap64 (a2)))))))) < (wrap64 (-(wrap64 (a2))))
          · rw [if_pos c16] at H
            have c16b0 : decide ((wrap64 (-(wrap64 ((wrap64 ((wrap64 (a0)) * (wrap64 (a1)))) - (wrap64 (t205 * (wrap64 (a2)))))))) < (wrap64 (-(wrap64 (a2))))) = true := decide_eq_true c16
            clear c16
            replace H := Option.bind_eq_some_iff.mp H
            obtain ⟨t207, A170, H⟩ := H
            replace H : (if t207 = true then ((flywheellaw02_wakes.f k).bind fun t208 => (some t208)) else (some false)) = some r := H
            have A17 := Aside0.mk A170
            clear A170
            by_cases c18 : t207 = true
            · subst c18
              have H1 : ((flywheellaw02_wakes.f k).bind fun t208 => (some t208)) = some r := by rw [if_pos rfl] at H; exact H
              clear H
              have H := H1
              clear H1
              replace H := Option.bind_eq_some_iff.mp H
              obtain ⟨t208, A190, H⟩ := H
              replace H : (some t208) = some r := H
              have A19 := Aside0.mk A190
              clear A190
              obtain rfl := Option.some.inj H
              go_enter Try.func11, Try.ntmps11
              go_wp2_with (first | ((with_reducible refine gate_callee (f := 24) rfl ?_); refine goesL_ (some 32) rfl rfl Try.func24 (by kernel_rfl) rfl #[.int .i64 (wrap64 (a0)), .int .i64 (wrap64 (a1)), .int .i64 (wrap64 (a2)), .int .i64 1] rfl (by (try simp only [List.map_toArray, List.map_cons, List.map_nil]); first | done | rfl | (simp only [List.length_drop, List.length_take]; rfl)) ?_; (with_reducible refine (muldiv_Do.calls (wrap64 (a0)) (wrap64 (a1)) (wrap64 (a2)) 1 t205 _ A11.out).mono ?_); rintro e w20 ⟨rfl, hb⟩; refine ⟨_, rfl, ?_⟩; have n0_ := Aside0.mk (below_step (by repeat (first | (with_reducible first | exact HB.out | apply below_alloc | apply pw_below_drewN | apply below_drew1) | exact HB.out)) hb); clear HB; have HB := n0_; clear n0_; (try clear hb); (try clear hb2); (try clear hk); (try clear hi)) | ((with_reducible refine gate_callee (f := 24) rfl ?_); refine goesL_ (some 37) rfl rfl Try.func24 (by kernel_rfl) rfl #[.int .i64 (wrap64 (-(wrap64 (a0)))), .int .i64 (wrap64 (a1)), .int .i64 (wrap64 (a2)), .int .i64 3] rfl (by (try simp only [List.map_toArray, List.map_cons, List.map_nil]); first | done | rfl | (simp only [List.length_drop, List.length_take]; rfl)) ?_; (with_reducible refine (muldiv_Do.calls (wrap64 (-(wrap64 (a0)))) (wrap64 (a1)) (wrap64 (a2)) 3 t206 _ A12.out).mono ?_); rintro e w21 ⟨rfl, hb⟩; refine ⟨_, rfl, ?_⟩; have n0_ := Aside0.mk (below_step (by repeat (first | (with_reducible first | exact HB.out | apply below_alloc | apply pw_below_drewN | apply below_drew1) | exact HB.out)) hb); clear HB; have HB := n0_; clear n0_; (try clear hb); (try clear hb2); (try clear hk); (try clear hi)) | (go_at_call 26; (with_reducible refine (muldiv_Fits.calls (wrap64 (a0)) (wrap64 (a1)) (wrap64 (a2)) 2 true _ A17.out).mono ?_); rintro e w22 ⟨rfl, hb⟩; have n0_ := Aside0.mk (below_step (by repeat (first | (with_reducible first | exact HB.out | apply below_alloc | apply pw_below_drewN | apply below_drew1) | exact HB.out)) hb); clear HB; have HB := n0_; clear n0_; (try clear hb); (try clear hb2); (try clear hk); (try clear hi)) | (go_at_call 22; (with_reducible refine (flywheellaw02_wakes.calls k  t208 _ A19.out).mono ?_); rintro e w23 ⟨rfl, hb⟩; have n0_ := Aside0.mk (below_step (by repeat (first | (with_reducible first | exact HB.out | apply below_alloc | apply pw_below_drewN | apply below_drew1) | exact HB.out)) hb); clear HB; have HB := n0_; clear n0_; (try clear hb); (try clear hb2); (try clear hk); (try clear hi)))
              go_ret
              exact ⟨by first | rfl | (simp [errW_none, errW_some] <;> rfl) | (simp [*, errW_none, errW_some] <;> rfl), by repeat (first | (with_reducible first | exact HB.out | apply below_alloc | apply pw_below_drewN | apply below_drew1) | exact HB.out)⟩
            · replace c18 := Bool.eq_false_iff.mpr c18
              subst c18
              have H1 : (some false) = some r := by rw [if_neg (show ¬ (false = true) by decide)] at H; exact H
              clear H
              have H := H1
              clear H1
              obtain rfl := Option.some.inj H
              go_enter Try.func11, Try.ntmps11
              go_wp2_with (first | ((with_reducible refine gate_callee (f := 24) rfl ?_); refine goesL_ (some 32) rfl rfl Try.func24 (by kernel_rfl) rfl #[.int .i64 (wrap64 (a0)), .int .i64 (wrap64 (a1)), .int .i64 (wrap64 (a2)), .int .i64 1] rfl (by (try simp only [List.map_toArray, List.map_cons, List.map_nil]); first | done | rfl | (simp only [List.length_drop, List.length_take]; rfl)) ?_; (with_reducible refine (muldiv_Do.calls (wrap64 (a0)) (wrap64 (a1)) (wrap64 (a2)) 1 t205 _ A11.out).mono ?_); rintro e w24 ⟨rfl, hb⟩; refine ⟨_, rfl, ?_⟩; have n0_ := Aside0.mk (below_step (by repeat (first | (with_reducible first | exact HB.out | apply below_alloc | apply pw_below_drewN | apply below_drew1) | exact HB.out)) hb); clear HB; have HB := n0_; clear n0_; (try clear hb); (try clear hb2); (try clear hk); (try clear hi)) | ((with_reducible refine gate_callee (f := 24) rfl ?_); refine goesL_ (some 37) rfl rfl Try.func24 (by kernel_rfl) rfl #[.int .i64 (wrap64 (-(wrap64 (a0)))), .int .i64 (wrap64 (a1)), .int .i64 (wrap64 (a2)), .int .i64 3] rfl (by (try simp only [List.map_toArray, List.map_cons, List.map_nil]); first | done | rfl | (simp only [List.length_drop, List.length_take]; rfl)) ?_; (with_reducible refine (muldiv_Do.calls (wrap64 (-(wrap64 (a0)))) (wrap64 (a1)) (wrap64 (a2)) 3 t206 _ A12.out).mono ?_); rintro e w25 ⟨rfl, hb⟩; refine ⟨_, rfl, ?_⟩; have n0_ := Aside0.mk (below_step (by repeat (first | (with_reducible first | exact HB.out | apply below_alloc | apply pw_below_drewN | apply below_drew1) | exact HB.out)) hb); clear HB; have HB := n0_; clear n0_; (try clear hb); (try clear hb2); (try clear hk); (try clear hi)) | (go_at_call 26; (with_reducible refine (muldiv_Fits.calls (wrap64 (a0)) (wrap64 (a1)) (wrap64 (a2)) 2 false _ A17.out).mono ?_); rintro e w26 ⟨rfl, hb⟩; have n0_ := Aside0.mk (below_step (by repeat (first | (with_reducible first | exact HB.out | apply below_alloc | apply pw_below_drewN | apply below_drew1) | exact HB.out)) hb); clear HB; have HB := n0_; clear n0_; (try clear hb); (try clear hb2); (try clear hk); (try clear hi)))
              go_ret
              exact ⟨by first | rfl | (simp [errW_none, errW_some] <;> rfl) | (simp [*, errW_none, errW_some] <;> rfl), by repeat (first | (with_reducible first | exact HB.out | apply below_alloc | apply pw_below_drewN | apply below_drew1) | exact HB.out)⟩
          · rw [if_neg c16] at H
            have c16b0 : decide ((wrap64 (-(wrap64 ((wrap64 ((wrap64 (a0)) * (wrap64 (a1)))) - (wrap64 (t205 * (wrap64 (a2)))))))) < (wrap64 (-(wrap64 (a2))))) = false := decide_eq_false c16
            clear c16
            obtain rfl := Option.some.inj H
            go_enter Try.func11, Try.ntmps11
            go_wp2_with (first | ((with_reducible refine gate_callee (f := 24) rfl ?_); refine goesL_ (some 32) rfl rfl Try.func24 (by kernel_rfl) rfl #[.int .i64 (wrap64 (a0)), .int .i64 (wrap64 (a1)), .int .i64 (wrap64 (a2)), .int .i64 1] rfl (by (try simp only [List.map_toArray, List.map_cons, List.map_nil]); first | done | rfl | (simp only [List.length_drop, List.length_take]; rfl)) ?_; (with_reducible refine (muldiv_Do.calls (wrap64 (a0)) (wrap64 (a1)) (wrap64 (a2)) 1 t205 _ A11.out).mono ?_); rintro e w27 ⟨rfl, hb⟩; refine ⟨_, rfl, ?_⟩; have n0_ := Aside0.mk (below_step (by repeat (first | (with_reducible first | exact HB.out | apply below_alloc | apply pw_below_drewN | apply below_drew1) | exact HB.out)) hb); clear HB; have HB := n0_; clear n0_; (try clear hb); (try clear hb2); (try clear hk); (try clear hi)) | ((with_reducible refine gate_callee (f := 24) rfl ?_); refine goesL_ (some 37) rfl rfl Try.func24 (by kernel_rfl) rfl #[.int .i64 (wrap64 (-(wrap64 (a0)))), .int .i64 (wrap64 (a1)), .int .i64 (wrap64 (a2)), .int .i64 3] rfl (by (try simp only [List.map_toArray, List.map_cons, List.map_nil]); first | done | rfl | (simp only [List.length_drop, List.length_take]; rfl)) ?_; (with_reducible refine (muldiv_Do.calls (wrap64 (-(wrap64 (a0)))) (wrap64 (a1)) (wrap64 (a2)) 3 t206 _ A12.out).mono ?_); rintro e w28 ⟨rfl, hb⟩; refine ⟨_, rfl, ?_⟩; have n0_ := Aside0.mk (below_step (by repeat (first | (with_reducible first | exact HB.out | apply below_alloc | apply pw_below_drewN | apply below_drew1) | exact HB.out)) hb); clear HB; have HB := n0_; clear n0_; (try clear hb); (try clear hb2); (try clear hk); (try clear hi)))
            go_ret
            exact ⟨by first | rfl | (simp [errW_none, errW_some] <;> rfl) | (simp [*, errW_none, errW_some] <;> rfl), by repeat (first | (with_reducible first | exact HB.out | apply below_alloc | apply pw_below_drewN | apply below_drew1) | exact HB.out)⟩
        · rw [if_neg c15] at H
          have c15b0 : decide (0 ≤ (wrap64 (-(wrap64 ((wrap64 ((wrap64 (a0)) * (wrap64 (a1)))) - (wrap64 (t205 * (wrap64 (a2))))))))) = false := decide_eq_false c15
          clear c15
          obtain rfl := Option.some.inj H
          go_enter Try.func11, Try.ntmps11
          go_wp2_with (first | ((with_reducible refine gate_callee (f := 24) rfl ?_); refine goesL_ (some 32) rfl rfl Try.func24 (by kernel_rfl) rfl #[.int .i64 (wrap64 (a0)), .int .i64 (wrap64 (a1)), .int .i64 (wrap64 (a2)), .int .i64 1] rfl (by (try simp only [List.map_toArray, List.map_cons, List.map_nil]); first | done | rfl | (simp only [List.length_drop, List.length_take]; rfl)) ?_; (with_reducible refine (muldiv_Do.calls (wrap64 (a0)) (wrap64 (a1)) (wrap64 (a2)) 1 t205 _ A11.out).mono ?_); rintro e w29 ⟨rfl, hb⟩; refine ⟨_, rfl, ?_⟩; have n0_ := Aside0.mk (below_step (by repeat (first | (with_reducible first | exact HB.out | apply below_alloc | apply pw_below_drewN | apply below_drew1) | exact HB.out)) hb); clear HB; have HB := n0_; clear n0_; (try clear hb); (try clear hb2); (try clear hk); (try clear hi)) | ((with_reducible refine gate_callee (f := 24) rfl ?_); refine goesL_ (some 37) rfl rfl Try.func24 (by kernel_rfl) rfl #[.int .i64 (wrap64 (-(wrap64 (a0)))), .int .i64 (wrap64 (a1)), .int .i64 (wrap64 (a2)), .int .i64 3] rfl (by (try simp only [List.map_toArray, List.map_cons, List.map_nil]); first | done | rfl | (simp only [List.length_drop, List.length_take]; rfl)) ?_; (with_reducible refine (muldiv_Do.calls (wrap64 (-(wrap64 (a0)))) (wrap64 (a1)) (wrap64 (a2)) 3 t206 _ A12.out).mono ?_); rintro e w30 ⟨rfl, hb⟩; refine ⟨_, rfl, ?_⟩; have n0_ := Aside0.mk (below_step (by repeat (first | (with_reducible first | exact HB.out | apply below_alloc | apply pw_below_drewN | apply below_drew1) | exact HB.out)) hb); clear HB; have HB := n0_; clear n0_; (try clear hb); (try clear hb2); (try clear hk); (try clear hi)))
          go_ret
          exact ⟨by first | rfl | (simp [errW_none, errW_some] <;> rfl) | (simp [*, errW_none, errW_some] <;> rfl), by repeat (first | (with_reducible first | exact HB.out | apply below_alloc | apply pw_below_drewN | apply below_drew1) | exact HB.out)⟩
      · rw [if_neg c14] at H
        have c14b0 : (t205 == (wrap64 (-t206))) = false := beq_eq_false_iff_ne.mpr c14
        have c14b1 : (t205 != (wrap64 (-t206))) = true := bne_iff_ne.mpr c14
        obtain rfl := Option.some.inj H
        go_enter Try.func11, Try.ntmps11
        go_wp2_with (first | ((with_reducible refine gate_callee (f := 24) rfl ?_); refine goesL_ (some 32) rfl rfl Try.func24 (by kernel_rfl) rfl #[.int .i64 (wrap64 (a0)), .int .i64 (wrap64 (a1)), .int .i64 (wrap64 (a2)), .int .i64 1] rfl (by (try simp only [List.map_toArray, List.map_cons, List.map_nil]); first | done | rfl | (simp only [List.length_drop, List.length_take]; rfl)) ?_; (with_reducible refine (muldiv_Do.calls (wrap64 (a0)) (wrap64 (a1)) (wrap64 (a2)) 1 t205 _ A11.out).mono ?_); rintro e w31 ⟨rfl, hb⟩; refine ⟨_, rfl, ?_⟩; have n0_ := Aside0.mk (below_step (by repeat (first | (with_reducible first | exact HB.out | apply below_alloc | apply pw_below_drewN | apply below_drew1) | exact HB.out)) hb); clear HB; have HB := n0_; clear n0_; (try clear hb); (try clear hb2); (try clear hk); (try clear hi)) | ((with_reducible refine gate_callee (f := 24) rfl ?_); refine goesL_ (some 37) rfl rfl Try.func24 (by kernel_rfl) rfl #[.int .i64 (wrap64 (-(wrap64 (a0)))), .int .i64 (wrap64 (a1)), .int .i64 (wrap64 (a2)), .int .i64 3] rfl (by (try simp only [List.map_toArray, List.map_cons, List.map_nil]); first | done | rfl | (simp only [List.length_drop, List.length_take]; rfl)) ?_; (with_reducible refine (muldiv_Do.calls (wrap64 (-(wrap64 (a0)))) (wrap64 (a1)) (wrap64 (a2)) 3 t206 _ A12.out).mono ?_); rintro e w32 ⟨rfl, hb⟩; refine ⟨_, rfl, ?_⟩; have n0_ := Aside0.mk (below_step (by repeat (first | (with_reducible first | exact HB.out | apply below_alloc | apply pw_below_drewN | apply below_drew1) | exact HB.out)) hb); clear HB; have HB := n0_; clear n0_; (try clear hb); (try clear hb2); (try clear hk); (try clear hi)))
        go_ret
        exact ⟨by first | rfl | (simp [errW_none, errW_some] <;> rfl) | (simp [*, errW_none, errW_some] <;> rfl), by repeat (first | (with_reducible first | exact HB.out | apply below_alloc | apply pw_below_drewN | apply below_drew1) | exact HB.out)⟩
    · rw [if_neg c13] at H
      have c13b0 : decide ((wrap64 (a2)) < 0) = false := decide_eq_false c13
      clear c13
      by_cases c33 : t205 = (wrap64 (-t206))
      · rw [if_pos c33] at H
        have c33b0 : (t205 == (wrap64 (-t206))) = true := beq_iff_eq.mpr c33
        have c33b1 : (t205 != (wrap64 (-t206))) = false := bne_eq_false_iff_eq.mpr c33
        clear c33
        by_cases c34 : (wrap64 ((wrap64 ((wrap64 (a0)) * (wrap64 (a1)))) - (wrap64 (t205 * (wrap64 (a2)))))) ≥ 0
        · rw [if_pos c34] at H
          have c34b0 : decide (0 ≤ (wrap64 ((wrap64 ((wrap64 (a0)) * (wrap64 (a1)))) - (wrap64 (t205 * (wrap64 (a2))))))) = true := decide_eq_true c34
          clear c34
          by_cases c35 : (wrap64 ((wrap64 ((wrap64 (a0)) * (wrap64 (a1)))) - (wrap64 (t205 * (wrap64 (a2)))))) < (wrap64 (a2))
          · rw [if_pos c35] at H
            have c35b0 : decide ((wrap64 ((wrap64 ((wrap64 (a0)) * (wrap64 (a1)))) - (wrap64 (t205 * (wrap64 (a2)))))) < (wrap64 (a2))) = true := decide_eq_true c35
            clear c35
            replace H := Option.bind_eq_some_iff.mp H
            obtain ⟨t209, A360, H⟩ := H
            replace H : (if t209 = true then ((flywheellaw02_wakes.f k).bind fun t210 => (some t210)) else (some false)) = some r := H
            have A36 := Aside0.mk A360
            clear A360
            by_cases c37 : t209 = true
            · subst c37
              have H1 : ((flywheellaw02_wakes.f k).bind fun t210 => (some t210)) = some r := by rw [if_pos rfl] at H; exact H
              clear H
              have H := H1
              clear H1
              replace H := Option.bind_eq_some_iff.mp H
              obtain ⟨t210, A380, H⟩ := H
              replace H : (some t210) = some r := H
              have A38 := Aside0.mk A380
              clear A380
              obtain rfl := Option.some.inj H
              go_enter Try.func11, Try.ntmps11
              go_wp2_with (first | ((with_reducible refine gate_callee (f := 24) rfl ?_); refine goesL_ (some 32) rfl rfl Try.func24 (by kernel_rfl) rfl #[.int .i64 (wrap64 (a0)), .int .i64 (wrap64 (a1)), .int .i64 (wrap64 (a2)), .int .i64 1] rfl (by (try simp only [List.map_toArray, List.map_cons, List.map_nil]); first | done | rfl | (simp only [List.length_drop, List.length_take]; rfl)) ?_; (with_reducible refine (muldiv_Do.calls (wrap64 (a0)) (wrap64 (a1)) (wrap64 (a2)) 1 t205 _ A11.out).mono ?_); rintro e w39 ⟨rfl, hb⟩; refine ⟨_, rfl, ?_⟩; have n0_ := Aside0.mk (below_step (by repeat (first | (with_reducible first | exact HB.out | apply below_alloc | apply pw_below_drewN | apply below_drew1) | exact HB.out)) hb); clear HB; have HB := n0_; clear n0_; (try clear hb); (try clear hb2); (try clear hk); (try clear hi)) | ((with_reducible refine gate_callee (f := 24) rfl ?_); refine goesL_ (some 37) rfl rfl Try.func24 (by kernel_rfl) rfl #[.int .i64 (wrap64 (-(wrap64 (a0)))), .int .i64 (wrap64 (a1)), .int .i64 (wrap64 (a2)), .int .i64 3] rfl (by (try simp only [List.map_toArray, List.map_cons, List.map_nil]); first | done | rfl | (simp only [List.length_drop, List.length_take]; rfl)) ?_; (with_reducible refine (muldiv_Do.calls (wrap64 (-(wrap64 (a0)))) (wrap64 (a1)) (wrap64 (a2)) 3 t206 _ A12.out).mono ?_); rintro e w40 ⟨rfl, hb⟩; refine ⟨_, rfl, ?_⟩; have n0_ := Aside0.mk (below_step (by repeat (first | (with_reducible first | exact HB.out | apply below_alloc | apply pw_below_drewN | apply below_drew1) | exact HB.out)) hb); clear HB; have HB := n0_; clear n0_; (try clear hb); (try clear hb2); (try clear hk); (try clear hi)) | (go_at_call 26; (with_reducible refine (muldiv_Fits.calls (wrap64 (a0)) (wrap64 (a1)) (wrap64 (a2)) 2 true _ A36.out).mono ?_); rintro e w41 ⟨rfl, hb⟩; have n0_ := Aside0.mk (below_step (by repeat (first | (with_reducible first | exact HB.out | apply below_alloc | apply pw_below_drewN | apply below_drew1) | exact HB.out)) hb); clear HB; have HB := n0_; clear n0_; (try clear hb); (try clear hb2); (try clear hk); (try clear hi)) | (go_at_call 22; (with_reducible refine (flywheellaw02_wakes.calls k  t210 _ A38.out).mono ?_); rintro e w42 ⟨rfl, hb⟩; have n0_ := Aside0.mk (below_step (by repeat (first | (with_reducible first | exact HB.out | apply below_alloc | apply pw_below_drewN | apply below_drew1) | exact HB.out)) hb); clear HB; have HB := n0_; clear n0_; (try clear hb); (try clear hb2); (try clear hk); (try clear hi)))
              go_ret
              exact ⟨by first | rfl | (simp [errW_none, errW_some] <;> rfl) | (simp [*, errW_none, errW_some] <;> rfl), by repeat (first | (with_reducible first | exact HB.out | apply below_alloc | apply pw_below_drewN | apply below_drew1) | exact HB.out)⟩
            · replace c37 := Bool.eq_false_iff.mpr c37
              subst c37
              have H1 : (some false) = some r := by rw [if_neg (show ¬ (false = true) by decide)] at H; exact H
              clear H
              have H := H1
              clear H1
              obtain rfl := Option.some.inj H
              go_enter Try.func11, Try.ntmps11
              go_wp2_with (first | ((with_reducible refine gate_callee (f := 24) rfl ?_); refine goesL_ (some 32) rfl rfl Try.func24 (by kernel_rfl) rfl #[.int .i64 (wrap64 (a0)), .int .i64 (wrap64 (a1)), .int .i64 (wrap64 (a2)), .int .i64 1] rfl (by (try simp only [List.map_toArray, List.map_cons, List.map_nil]); first | done | rfl | (simp only [List.length_drop, List.length_take]; rfl)) ?_; (with_reducible refine (muldiv_Do.calls (wrap64 (a0)) (wrap64 (a1)) (wrap64 (a2)) 1 t205 _ A11.out).mono ?_); rintro e w43 ⟨rfl, hb⟩; refine ⟨_, rfl, ?_⟩; have n0_ := Aside0.mk (below_step (by repeat (first | (with_reducible first | exact HB.out | apply below_alloc | apply pw_below_drewN | apply below_drew1) | exact HB.out)) hb); clear HB; have HB := n0_; clear n0_; (try clear hb); (try clear hb2); (try clear hk); (try clear hi)) | ((with_reducible refine gate_callee (f := 24) rfl ?_); refine goesL_ (some 37) rfl rfl Try.func24 (by kernel_rfl) rfl #[.int .i64 (wrap64 (-(wrap64 (a0)))), .int .i64 (wrap64 (a1)), .int .i64 (wrap64 (a2)), .int .i64 3] rfl (by (try simp only [List.map_toArray, List.map_cons, List.map_nil]); first | done | rfl | (simp only [List.length_drop, List.length_take]; rfl)) ?_; (with_reducible refine (muldiv_Do.calls (wrap64 (-(wrap64 (a0)))) (wrap64 (a1)) (wrap64 (a2)) 3 t206 _ A12.out).mono ?_); rintro e w44 ⟨rfl, hb⟩; refine ⟨_, rfl, ?_⟩; have n0_ := Aside0.mk (below_step (by repeat (first | (with_reducible first | exact HB.out | apply below_alloc | apply pw_below_drewN | apply below_drew1) | exact HB.out)) hb); clear HB; have HB := n0_; clear n0_; (try clear hb); (try clear hb2); (try clear hk); (try clear hi)) | (go_at_call 26; (with_reducible refine (muldiv_Fits.calls (wrap64 (a0)) (wrap64 (a1)) (wrap64 (a2)) 2 false _ A36.out).mono ?_); rintro e w45 ⟨rfl, hb⟩; have n0_ := Aside0.mk (below_step (by repeat (first | (with_reducible first | exact HB.out | apply below_alloc | apply pw_below_drewN | apply below_drew1) | exact HB.out)) hb); clear HB; have HB := n0_; clear n0_; (try clear hb); (try clear hb2); (try clear hk); (try clear hi)))
              go_ret
              exact ⟨by first | rfl | (simp [errW_none, errW_some] <;> rfl) | (simp [*, errW_none, errW_some] <;> rfl), by repeat (first | (with_reducible first | exact HB.out | apply below_alloc | apply pw_below_drewN | apply below_drew1) | exact HB.out)⟩
          · rw [if_neg c35] at H
            have c35b0 : decide ((wrap64 ((wrap64 ((wrap64 (a0)) * (wrap64 (a1)))) - (wrap64 (t205 * (wrap64 (a2)))))) < (wrap64 (a2))) = false := decide_eq_false c35
            clear c35
            obtain rfl := Option.some.inj H
            go_enter Try.func11, Try.ntmps11
            go_wp2_with (first | ((with_reducible refine gate_callee (f := 24) rfl ?_); refine goesL_ (some 32) rfl rfl Try.func24 (by kernel_rfl) rfl #[.int .i64 (wrap64 (a0)), .int .i64 (wrap64 (a1)), .int .i64 (wrap64 (a2)), .int .i64 1] rfl (by (try simp only [List.map_toArray, List.map_cons, List.map_nil]); first | done | rfl | (simp only [List.length_drop, List.length_take]; rfl)) ?_; (with_reducible refine (muldiv_Do.calls (wrap64 (a0)) (wrap64 (a1)) (wrap64 (a2)) 1 t205 _ A11.out).mono ?_); rintro e w46 ⟨rfl, hb⟩; refine ⟨_, rfl, ?_⟩; have n0_ := Aside0.mk (below_step (by repeat (first | (with_reducible first | exact HB.out | apply below_alloc | apply pw_below_drewN | apply below_drew1) | exact HB.out)) hb); clear HB; have HB := n0_; clear n0_; (try clear hb); (try clear hb2); (try clear hk); (try clear hi)) | ((with_reducible refine gate_callee (f := 24) rfl ?_); refine goesL_ (some 37) rfl rfl Try.func24 (by kernel_rfl) rfl #[.int .i64 (wrap64 (-(wrap64 (a0)))), .int .i64 (wrap64 (a1)), .int .i64 (wrap64 (a2)), .int .i64 3] rfl (by (try simp only [List.map_toArray, List.map_cons, List.map_nil]); first | done | rfl | (simp only [List.length_drop, List.length_take]; rfl)) ?_; (with_reducible refine (muldiv_Do.calls (wrap64 (-(wrap64 (a0)))) (wrap64 (a1)) (wrap64 (a2)) 3 t206 _ A12.out).mono ?_); rintro e w47 ⟨rfl, hb⟩; refine ⟨_, rfl, ?_⟩; have n0_ := Aside0.mk (below_step (by repeat (first | (with_reducible first | exact HB.out | apply below_alloc | apply pw_below_drewN | apply below_drew1) | exact HB.out)) hb); clear HB; have HB := n0_; clear n0_; (try clear hb); (try clear hb2); (try clear hk); (try clear hi)))
            go_ret
            exact ⟨by first | rfl | (simp [errW_none, errW_some] <;> rfl) | (simp [*, errW_none, errW_some] <;> rfl), by repeat (first | (with_reducible first | exact HB.out | apply below_alloc | apply pw_below_drewN | apply below_drew1) | exact HB.out)⟩
        · rw [if_neg c34] at H
          have c34b0 : decide (0 ≤ (wrap64 ((wrap64 ((wrap64 (a0)) * (wrap64 (a1)))) - (wrap64 (t205 * (wrap64 (a2))))))) = false := decide_eq_false c34
          clear c34
          obtain rfl := Option.some.inj H
          go_enter Try.func11, Try.ntmps11
          go_wp2_with (first | ((with_reducible refine gate_callee (f := 24) rfl ?_); refine goesL_ (some 32) rfl rfl Try.func24 (by kernel_rfl) rfl #[.int .i64 (wrap64 (a0)), .int .i64 (wrap64 (a1)), .int .i64 (wrap64 (a2)), .int .i64 1] rfl (by (try simp only [List.map_toArray, List.map_cons, List.map_nil]); first | done | rfl | (simp only [List.length_drop, List.length_take]; rfl)) ?_; (with_reducible refine (muldiv_Do.calls (wrap64 (a0)) (wrap64 (a1)) (wrap64 (a2)) 1 t205 _ A11.out).mono ?_); rintro e w48 ⟨rfl, hb⟩; refine ⟨_, rfl, ?_⟩; have n0_ := Aside0.mk (below_step (by repeat (first | (with_reducible first | exact HB.out | apply below_alloc | apply pw_below_drewN | apply below_drew1) | exact HB.out)) hb); clear HB; have HB := n0_; clear n0_; (try clear hb); (try clear hb2); (try clear hk); (try clear hi)) | ((with_reducible refine gate_callee (f := 24) rfl ?_); refine goesL_ (some 37) rfl rfl Try.func24 (by kernel_rfl) rfl #[.int .i64 (wrap64 (-(wrap64 (a0)))), .int .i64 (wrap64 (a1)), .int .i64 (wrap64 (a2)), .int .i64 3] rfl (by (try simp only [List.map_toArray, List.map_cons, List.map_nil]); first | done | rfl | (simp only [List.length_drop, List.length_take]; rfl)) ?_; (with_reducible refine (muldiv_Do.calls (wrap64 (-(wrap64 (a0)))) (wrap64 (a1)) (wrap64 (a2)) 3 t206 _ A12.out).mono ?_); rintro e w49 ⟨rfl, hb⟩; refine ⟨_, rfl, ?_⟩; have n0_ := Aside0.mk (below_step (by repeat (first | (with_reducible first | exact HB.out | apply below_alloc | apply pw_below_drewN | apply below_drew1) | exact HB.out)) hb); clear HB; have HB := n0_; clear n0_; (try clear hb); (try clear hb2); (try clear hk); (try clear hi)))
          go_ret
          exact ⟨by first | rfl | (simp [errW_none, errW_some] <;> rfl) | (simp [*, errW_none, errW_some] <;> rfl), by repeat (first | (with_reducible first | exact HB.out | apply below_alloc | apply pw_below_drewN | apply below_drew1) | exact HB.out)⟩
      · rw [if_neg c33] at H
        have c33b0 : (t205 == (wrap64 (-t206))) = false := beq_eq_false_iff_ne.mpr c33
        have c33b1 : (t205 != (wrap64 (-t206))) = true := bne_iff_ne.mpr c33
        obtain rfl := Option.some.inj H
        go_enter Try.func11, Try.ntmps11
        go_wp2_with (first | ((with_reducible refine gate_callee (f := 24) rfl ?_); refine goesL_ (some 32) rfl rfl Try.func24 (by kernel_rfl) rfl #[.int .i64 (wrap64 (a0)), .int .i64 (wrap64 (a1)), .int .i64 (wrap64 (a2)), .int .i64 1] rfl (by (try simp only [List.map_toArray, List.map_cons, List.map_nil]); first | done | rfl | (simp only [List.length_drop, List.length_take]; rfl)) ?_; (with_reducible refine (muldiv_Do.calls (wrap64 (a0)) (wrap64 (a1)) (wrap64 (a2)) 1 t205 _ A11.out).mono ?_); rintro e w50 ⟨rfl, hb⟩; refine ⟨_, rfl, ?_⟩; have n0_ := Aside0.mk (below_step (by repeat (first | (with_reducible first | exact HB.out | apply below_alloc | apply pw_below_drewN | apply below_drew1) | exact HB.out)) hb); clear HB; have HB := n0_; clear n0_; (try clear hb); (try clear hb2); (try clear hk); (try clear hi)) | ((with_reducible refine gate_callee (f := 24) rfl ?_); refine goesL_ (some 37) rfl rfl Try.func24 (by kernel_rfl) rfl #[.int .i64 (wrap64 (-(wrap64 (a0)))), .int .i64 (wrap64 (a1)), .int .i64 (wrap64 (a2)), .int .i64 3] rfl (by (try simp only [List.map_toArray, List.map_cons, List.map_nil]); first | done | rfl | (simp only [List.length_drop, List.length_take]; rfl)) ?_; (with_reducible refine (muldiv_Do.calls (wrap64 (-(wrap64 (a0)))) (wrap64 (a1)) (wrap64 (a2)) 3 t206 _ A12.out).mono ?_); rintro e w51 ⟨rfl, hb⟩; refine ⟨_, rfl, ?_⟩; have n0_ := Aside0.mk (below_step (by repeat (first | (with_reducible first | exact HB.out | apply below_alloc | apply pw_below_drewN | apply below_drew1) | exact HB.out)) hb); clear HB; have HB := n0_; clear n0_; (try clear hb); (try clear hb2); (try clear hk); (try clear hi)))
        go_ret
        exact ⟨by first | rfl | (simp [errW_none, errW_some] <;> rfl) | (simp [*, errW_none, errW_some] <;> rfl), by repeat (first | (with_reducible first | exact HB.out | apply below_alloc | apply pw_below_drewN | apply below_drew1) | exact HB.out)⟩

/-- THE ONE PURE STATEMENT of flywheellaw02_MuldivTurns: yours. -/
def flywheellaw02_MuldivTurns.Pure : Prop := ∀ (a0 : Int) (a1 : Int) (a2 : Int), (Lit.int .i32 a0).wf = true → (Lit.int .i32 a1).wf = true → (Lit.int .i32 a2).wf = true → ∃ k, flywheellaw02_MuldivTurns.f k a0 a1 a2 = some true
theorem flywheellaw02_MuldivTurns.walk (P : flywheellaw02_MuldivTurns.Pure) (a0 : Int) (a1 : Int) (a2 : Int) (w : World) (w0 : (Lit.int .i32 a0).wf = true) (w1 : (Lit.int .i32 a1).wf = true) (w2 : (Lit.int .i32 a2).wf = true) :
    Calls Try.prog 11 #[.int .i32 a0, .int .i32 a1, .int .i32 a2] w fun e w' => e = .returned (.bool true) ∧ Below w.heap.size w w' := by
  obtain ⟨k, h⟩ := P a0 a1 a2 w0 w1 w2
  refine (flywheellaw02_MuldivTurns.calls k a0 a1 a2 true w h).mono ?_
  rintro e w' ⟨rfl, hd⟩
  exact ⟨rfl, hd⟩

/-! ### flywheelref04_Stamp: function 28 -/
def flywheelref04_Stamp.f (a0 : Int) : Option (Int) := (flywheelref02_Do.f a0 65536 1000000 1).bind fun t211 => (some ((Go.bits .and .i64 t211 4294967295) % 4294967296))
set_option maxHeartbeats 8000000 in
set_option maxRecDepth 100000 in
theorem flywheelref04_Stamp.calls (a0 : Int) (r : Int) (w : World) (h : flywheelref04_Stamp.f a0 = some r) :
    Calls Try.prog 28 #[.int .i64 a0] w fun e w' => e = .returned (.int .u32 r) ∧ Below w.heap.size w w' := by
  have HB := Aside0.mk (Below.refl w.heap.size w)
  have H : ((flywheelref02_Do.f a0 65536 1000000 1).bind fun t211 => (some ((Go.bits .and .i64 t211 4294967295) % 4294967296))) = some r := h
  clear h
  replace H := Option.bind_eq_some_iff.mp H
  obtain ⟨t211, A20, H⟩ := H
  replace H : (some ((Go.bits .and .i64 t211 4294967295) % 4294967296)) = some r := H
  have A2 := Aside0.mk A20
  clear A20
  obtain rfl := Option.some.inj H
  go_enter Try.func28, Try.ntmps28
  go_wp2_with (first | ((with_reducible refine gate_callee (f := 33) rfl ?_); refine goesL_ (some 4) rfl rfl Try.func33 (by kernel_rfl) rfl #[.int .i64 a0, .int .i64 65536, .int .i64 1000000, .int .i64 1] rfl (by (try simp only [List.map_toArray, List.map_cons, List.map_nil]); first | done | rfl | (simp only [List.length_drop, List.length_take]; rfl)) ?_; (with_reducible refine (flywheelref02_Do.calls a0 65536 1000000 1 t211 _ A2.out).mono ?_); rintro e w3 ⟨rfl, hb⟩; refine ⟨_, rfl, ?_⟩; have n0_ := Aside0.mk (below_step (by repeat (first | (with_reducible first | exact HB.out | apply below_alloc | apply pw_below_drewN | apply below_drew1) | exact HB.out)) hb); clear HB; have HB := n0_; clear n0_; (try clear hb); (try clear hb2); (try clear hk); (try clear hi)))
  go_ret
  exact ⟨by first | rfl | (simp [errW_none, errW_some] <;> rfl) | (simp [*, errW_none, errW_some] <;> rfl), by repeat (first | (with_reducible first | exact HB.out | apply below_alloc | apply pw_below_drewN | apply below_drew1) | exact HB.out)⟩

/-! ### units_FromStamp: function 29 -/
def units_FromStamp.f (a0 : Int) (a1 : Int) : Option (Int) := (units_stamped.f (mn (mx a1 (-1125899906842624)) 1125899906842624)).bind fun t212 => (if (wrap64 (wrap32 ((a0 - (t212)) % 4294967296))) = (-2147483648) then ((muldiv_Do.f (wrap64 (t212 + 2147483648)) 1000000 65536 3).bind fun t213 => (some t213)) else ((muldiv_Do.f (wrap64 (t212 + (wrap64 (wrap32 ((a0 - (t212)) % 4294967296))))) 1000000 65536 3).bind fun t214 => (some t214)))
set_option maxHeartbeats 8000000 in
set_option maxRecDepth 100000 in
theorem units_FromStamp.calls (a0 : Int) (a1 : Int) (r : Int) (w : World) (h : units_FromStamp.f a0 a1 = some r) :
    Calls Try.prog 29 #[.int .u32 a0, .int .i64 a1] w fun e w' => e = .returned (.int .i64 r) ∧ Below w.heap.size w w' := by
  have HB := Aside0.mk (Below.refl w.heap.size w)
  have H : ((units_stamped.f (mn (mx a1 (-1125899906842624)) 1125899906842624)).bind fun t212 => (if (wrap64 (wrap32 ((a0 - (t212)) % 4294967296))) = (-2147483648) then ((muldiv_Do.f (wrap64 (t212 + 2147483648)) 1000000 65536 3).bind fun t213 => (some t213)) else ((muldiv_Do.f (wrap64 (t212 + (wrap64 (wrap32 ((a0 - (t212)) % 4294967296))))) 1000000 65536 3).bind fun t214 => (some t214)))) = some r := h
  clear h
  obtain ⟨ji3, hji3⟩ : ∃ j_ : Int, (mx a1 (-1125899906842624)) = j_ := ⟨_, rfl⟩
  replace H : ((units_stamped.f (mn (ji3) 1125899906842624)).bind fun t212 => (if (wrap64 (wrap32 ((a0 - (t212)) % 4294967296))) = (-2147483648) then ((muldiv_Do.f (wrap64 (t212 + 2147483648)) 1000000 65536 3).bind fun t213 => (some t213)) else ((muldiv_Do.f (wrap64 (t212 + (wrap64 (wrap32 ((a0 - (t212)) % 4294967296))))) 1000000 65536 3).bind fun t214 => (some t214)))) = some r := by first | (rw [hji3] at H; exact H) | (simp only [hji3] at H ⊢; exact H)
  have hji3_ : (if a1 < (-1125899906842624) then (-1125899906842624) else a1) = ji3 := hji3
  obtain ⟨ji4, hji4⟩ : ∃ j_ : Int, (mn (ji3) 1125899906842624) = j_ := ⟨_, rfl⟩
  replace H : ((units_stamped.f (ji4)).bind fun t212 => (if (wrap64 (wrap32 ((a0 - (t212)) % 4294967296))) = (-2147483648) then ((muldiv_Do.f (wrap64 (t212 + 2147483648)) 1000000 65536 3).bind fun t213 => (some t213)) else ((muldiv_Do.f (wrap64 (t212 + (wrap64 (wrap32 ((a0 - (t212)) % 4294967296))))) 1000000 65536 3).bind fun t214 => (some t214)))) = some r := by first | (rw [hji4] at H; exact H) | (simp only [hji4] at H ⊢; exact H)
  have hji4_ : (if 1125899906842624 < (ji3) then 1125899906842624 else (ji3)) = ji4 := hji4
  replace H := Option.bind_eq_some_iff.mp H
  obtain ⟨t212, A50, H⟩ := H
  replace H : (if (wrap64 (wrap32 ((a0 - (t212)) % 4294967296))) = (-2147483648) then ((muldiv_Do.f (wrap64 (t212 + 2147483648)) 1000000 65536 3).bind fun t213 => (some t213)) else ((muldiv_Do.f (wrap64 (t212 + (wrap64 (wrap32 ((a0 - (t212)) % 4294967296))))) 1000000 65536 3).bind fun t214 => (some t214))) = some r := H
  have A5 := Aside0.mk A50
  clear A50
  by_cases c6 : (wrap64 (wrap32 ((a0 - (t212)) % 4294967296))) = (-2147483648)
  · rw [if_pos c6] at H
    have c6b0 : ((wrap64 (wrap32 ((a0 - (t212)) % 4294967296))) == (-2147483648)) = true := beq_iff_eq.mpr c6
    have c6b1 : ((wrap64 (wrap32 ((a0 - (t212)) % 4294967296))) != (-2147483648)) = false := bne_eq_false_iff_eq.mpr c6
    clear c6
    replace H := Option.bind_eq_some_iff.mp H
    obtain ⟨t213, A70, H⟩ := H
    replace H : (some t213) = some r := H
    have A7 := Aside0.mk A70
    clear A70
    obtain rfl := Option.some.inj H
    go_enter Try.func29, Try.ntmps29
    go_wp2_with (first | ((with_reducible refine gate_callee (f := 39) rfl ?_); refine goesL_ (some 10) rfl rfl Try.func39 (by kernel_rfl) rfl #[.int .i64 ji4] rfl (by (try simp only [List.map_toArray, List.map_cons, List.map_nil]); first | done | (simp only [hji4]; rfl) | rfl | (simp only [List.length_drop, List.length_take]; rfl)) ?_; (with_reducible refine (units_stamped.calls ji4 t212 _ A5.out).mono ?_); rintro e w8 ⟨rfl, hb⟩; refine ⟨_, rfl, ?_⟩; have n0_ := Aside0.mk (below_step (by repeat (first | (with_reducible first | exact HB.out | apply below_alloc | apply pw_below_drewN | apply below_drew1) | exact HB.out)) hb); clear HB; have HB := n0_; clear n0_; (try clear hb); (try clear hb2); (try clear hk); (try clear hi)) | ((with_reducible refine gate_callee (f := 24) rfl ?_); refine goesL_ (some 22) rfl rfl Try.func24 (by kernel_rfl) rfl #[.int .i64 (wrap64 (t212 + 2147483648)), .int .i64 1000000, .int .i64 65536, .int .i64 3] rfl (by (try simp only [List.map_toArray, List.map_cons, List.map_nil]); first | done | rfl | (simp only [List.length_drop, List.length_take]; rfl)) ?_; (with_reducible refine (muldiv_Do.calls (wrap64 (t212 + 2147483648)) 1000000 65536 3 t213 _ A7.out).mono ?_); rintro e w9 ⟨rfl, hb⟩; refine ⟨_, rfl, ?_⟩; have n0_ := Aside0.mk (below_step (by repeat (first | (with_reducible first | exact HB.out | apply below_alloc | apply pw_below_drewN | apply below_drew1) | exact HB.out)) hb); clear HB; have HB := n0_; clear n0_; (try clear hb); (try clear hb2); (try clear hk); (try clear hi)))
    go_ret
    exact ⟨by first | rfl | (simp [errW_none, errW_some] <;> rfl) | (simp only [← hji3, ← hji4]; first | rfl | (simp [errW_none, errW_some] <;> rfl)) | (simp [*, errW_none, errW_some] <;> rfl), by repeat (first | (with_reducible first | exact HB.out | apply below_alloc | apply pw_below_drewN | apply below_drew1) | exact HB.out)⟩
  · rw [if_neg c6] at H
    have c6b0 : ((wrap64 (wrap32 ((a0 - (t212)) % 4294967296))) == (-2147483648)) = false := beq_eq_false_iff_ne.mpr c6
    have c6b1 : ((wrap64 (wrap32 ((a0 - (t212)) % 4294967296))) != (-2147483648)) = true := bne_iff_ne.mpr c6
    replace H := Option.bind_eq_some_iff.mp H
    obtain ⟨t214, A100, H⟩ := H
    replace H : (some t214) = some r := H
    have A10 := Aside0.mk A100
    clear A100
    obtain rfl := Option.some.inj H
    go_enter Try.func29, Try.ntmps29
    go_wp2_with (first | ((with_reducible refine gate_callee (f := 39) rfl ?_); refine goesL_ (some 10) rfl rfl Try.func39 (by kernel_rfl) rfl #[.int .i64 ji4] rfl (by (try simp only [List.map_toArray, List.map_cons, List.map_nil]); first | done | (simp only [hji4]; rfl) | rfl | (simp only [List.length_drop, List.length_take]; rfl)) ?_; (with_reducible refine (units_stamped.calls ji4 t212 _ A5.out).mono ?_); rintro e w11 ⟨rfl, hb⟩; refine ⟨_, rfl, ?_⟩; have n0_ := Aside0.mk (below_step (by repeat (first | (with_reducible first | exact HB.out | apply below_alloc | apply pw_below_drewN | apply below_drew1) | exact HB.out)) hb); clear HB; have HB := n0_; clear n0_; (try clear hb); (try clear hb2); (try clear hk); (try clear hi)) | ((with_reducible refine gate_callee (f := 24) rfl ?_); refine goesL_ (some 22) rfl rfl Try.func24 (by kernel_rfl) rfl #[.int .i64 (wrap64 (t212 + (wrap64 (wrap32 ((a0 - (t212)) % 4294967296))))), .int .i64 1000000, .int .i64 65536, .int .i64 3] rfl (by (try simp only [List.map_toArray, List.map_cons, List.map_nil]); first | done | rfl | (simp only [List.length_drop, List.length_take]; rfl)) ?_; (with_reducible refine (muldiv_Do.calls (wrap64 (t212 + (wrap64 (wrap32 ((a0 - (t212)) % 4294967296))))) 1000000 65536 3 t214 _ A10.out).mono ?_); rintro e w12 ⟨rfl, hb⟩; refine ⟨_, rfl, ?_⟩; have n0_ := Aside0.mk (below_step (by repeat (first | (with_reducible first | exact HB.out | apply below_alloc | apply pw_below_drewN | apply below_drew1) | exact HB.out)) hb); clear HB; have HB := n0_; clear n0_; (try clear hb); (try clear hb2); (try clear hk); (try clear hi)))
    go_ret
    exact ⟨by first | rfl | (simp [errW_none, errW_some] <;> rfl) | (simp only [← hji3, ← hji4]; first | rfl | (simp [errW_none, errW_some] <;> rfl)) | (simp [*, errW_none, errW_some] <;> rfl), by repeat (first | (with_reducible first | exact HB.out | apply below_alloc | apply pw_below_drewN | apply below_drew1) | exact HB.out)⟩

/-! ### flywheelref01_Clamp: function 40 -/
def flywheelref01_Clamp.f (a0 : Int) (a1 : Int) (a2 : Int) : Option (Int) := if a0 < a1 then (some a1) else (if a0 > a2 then (some a2) else (some a0))
set_option maxHeartbeats 8000000 in
set_option maxRecDepth 100000 in
theorem flywheelref01_Clamp.calls (a0 : Int) (a1 : Int) (a2 : Int) (r : Int) (w : World) (h : flywheelref01_Clamp.f a0 a1 a2 = some r) :
    Calls Try.prog 40 #[.int .i64 a0, .int .i64 a1, .int .i64 a2] w fun e w' => e = .returned (.int .i64 r) ∧ Drawn0 w w' := by
  have H : (if a0 < a1 then (some a1) else (if a0 > a2 then (some a2) else (some a0))) = some r := h
  clear h
  by_cases c4 : a0 < a1
  · rw [if_pos c4] at H
    have c4b0 : decide (a0 < a1) = true := decide_eq_true c4
    clear c4
    obtain rfl := Option.some.inj H
    go_enter Try.func40, Try.ntmps40
    go_wp2
    go_ret
    exact ⟨by first | rfl | (simp; done) | (simp [*]; done), by repeat (first | exact Drawn0.refl _ | apply Drawn0.step)⟩
  · rw [if_neg c4] at H
    have c4b0 : decide (a0 < a1) = false := decide_eq_false c4
    clear c4
    by_cases c5 : a0 > a2
    · rw [if_pos c5] at H
      have c5b0 : decide (a2 < a0) = true := decide_eq_true c5
      clear c5
      obtain rfl := Option.some.inj H
      go_enter Try.func40, Try.ntmps40
      go_wp2
      go_ret
      exact ⟨by first | rfl | (simp; done) | (simp [*]; done), by repeat (first | exact Drawn0.refl _ | apply Drawn0.step)⟩
    · rw [if_neg c5] at H
      have c5b0 : decide (a2 < a0) = false := decide_eq_false c5
      clear c5
      obtain rfl := Option.some.inj H
      go_enter Try.func40, Try.ntmps40
      go_wp2
      go_ret
      exact ⟨by first | rfl | (simp; done) | (simp [*]; done), by repeat (first | exact Drawn0.refl _ | apply Drawn0.step)⟩

/-! ### flywheelref05_mod: function 47 -/
def flywheelref05_mod.f (a0 : Int) (a1 : Int) : Option (Int) := if a1 = 0 then (none) else (some (Int.tmod (wrap64 ((Int.tmod a0 a1) + a1)) a1))
set_option maxHeartbeats 8000000 in
set_option maxRecDepth 100000 in
theorem flywheelref05_mod.calls (a0 : Int) (a1 : Int) (r : Int) (w : World) (h : flywheelref05_mod.f a0 a1 = some r) :
    Calls Try.prog 47 #[.int .i64 a0, .int .i64 a1] w fun e w' => e = .returned (.int .i64 r) ∧ Drawn0 w w' := by
  have H : (if a1 = 0 then (none) else (some (Int.tmod (wrap64 ((Int.tmod a0 a1) + a1)) a1))) = some r := h
  clear h
  by_cases c3 : a1 = 0
  · rw [if_pos c3] at H
    exact absurd H (by simp)
  · rw [if_neg c3] at H
    have c3b0 : (a1 == 0) = false := beq_eq_false_iff_ne.mpr c3
    have c3b1 : (a1 != 0) = true := bne_iff_ne.mpr c3
    obtain rfl := Option.some.inj H
    go_enter Try.func47, Try.ntmps47
    go_wp2
    go_ret
    exact ⟨by first | rfl | (simp; done) | (simp [*]; done), by repeat (first | exact Drawn0.refl _ | apply Drawn0.step)⟩

/-! ### flywheelref05_Near: function 41 -/
def flywheelref05_Near.j0 : Nat → Int → Int → Int → Bool → Option (Int)
  | 0, _, _, _, _ => none
  | k + 1, x0, x1, x2, x14 => if x14 = true then (some x0) else (if 0 ≤ (IntKind.u64.wrap (x2)) then (if (shl .i64 1 (IntKind.u64.wrap (x2))) = 0 then (none) else ((flywheelref05_mod.f (wrap64 ((Int.tmod x1 (shl .i64 1 (IntKind.u64.wrap (x2)))) - (Int.tmod (mx (-1152921504606846976) (mn x0 1152921504606846976)) (shl .i64 1 (IntKind.u64.wrap (x2)))))) (shl .i64 1 (IntKind.u64.wrap (x2)))).bind fun t215 => (if t215 ≤ (wrap64 (Int.tdiv (shl .i64 1 (IntKind.u64.wrap (x2))) 2)) then (some (wrap64 ((mx (-1152921504606846976) (mn x0 1152921504606846976)) + t215))) else (some (wrap64 ((wrap64 ((mx (-1152921504606846976) (mn x0 1152921504606846976)) + t215)) - (shl .i64 1 (IntKind.u64.wrap (x2))))))))) else (none))
def flywheelref05_Near.f (k : Nat) (a0 : Int) (a1 : Int) (a2 : Int) : Option (Int) := if a2 < 1 then (flywheelref05_Near.j0 k a0 a1 a2 true) else (flywheelref05_Near.j0 k a0 a1 a2 (decide (a2 > 32)))
theorem flywheelref05_Near.mono_l : ∀ k, (∀ y0 y1 y2 y3, LeO (flywheelref05_Near.j0 k y0 y1 y2 y3) (flywheelref05_Near.j0 (k + 1) y0 y1 y2 y3))
  | 0 => fun _ _ _ _ r h => by simp [flywheelref05_Near.j0] at h
  | k + 1 => by
    have ih0 := flywheelref05_Near.mono_l k
    · intro y0 y1 y2 y3
      unfold flywheelref05_Near.j0
      repeat' first
      | (with_reducible exact ih0 _ _ _ _)
      | (with_reducible exact LeO.refl _)
      | (with_reducible exact LeO.none _)
      | (with_reducible refine LeO.ite ?_ ?_)
      | (with_reducible refine LeO.bind ?_ (fun _ => ?_))
      | exact ih0 _ _ _ _
      | exact LeO.none _
      | refine LeO.ite ?_ ?_
      | refine LeO.bind ?_ (fun _ => ?_)
theorem flywheelref05_Near.mono : ∀ a0 a1 a2 k, LeO (flywheelref05_Near.f k a0 a1 a2) (flywheelref05_Near.f (k + 1) a0 a1 a2) := by
  intro a0 a1 a2 k
  have ih0 := flywheelref05_Near.mono_l k
  unfold flywheelref05_Near.f
  repeat' first
      | (with_reducible exact ih0 _ _ _ _)
      | (with_reducible exact LeO.refl _)
      | (with_reducible exact LeO.none _)
      | (with_reducible refine LeO.ite ?_ ?_)
      | (with_reducible refine LeO.bind ?_ (fun _ => ?_))
      | exact ih0 _ _ _ _
      | exact LeO.none _
      | refine LeO.ite ?_ ?_
      | refine LeO.bind ?_ (fun _ => ?_)
set_option maxHeartbeats 8000000 in
set_option maxRecDepth 100000 in
theorem flywheelref05_Near.calls (k : Nat) (a0 : Int) (a1 : Int) (a2 : Int) (r : Int) (w : World) (h : flywheelref05_Near.f k a0 a1 a2 = some r) :
    Calls Try.prog 41 #[.int .i64 a0, .int .i64 a1, .int .i64 a2] w fun e w' => e = .returned (.int .i64 r) ∧ Below w.heap.size w w' := by
  have HB := Aside0.mk (Below.refl w.heap.size w)
  have H : (if a2 < 1 then (flywheelref05_Near.j0 k a0 a1 a2 true) else (flywheelref05_Near.j0 k a0 a1 a2 (decide (a2 > 32)))) = some r := h
  clear h
  have HC4 := Aside0.mk H
  clear H
  go_enter Try.func41, Try.ntmps41
  go_upto_region 1 with (fail)
  repeat (go_quiet (fail); go_upto_region 1 with (fail))
  go_cut [14] (fun v14 wc => ∃ (kq : Nat) (x14_3 : Bool), v14 = .bool x14_3 ∧ Aside0 (flywheelref05_Near.j0 kq a0 a1 a2 x14_3 = some r) ∧ Aside0 (kq ≤ k) ∧ Aside0 (Below w.heap.size w wc))
  case first =>
    have H := HC4.out
    clear HC4
    by_cases c5 : a2 < 1
    · rw [if_pos c5] at H
      have c5b0 : decide (a2 < 1) = true := decide_eq_true c5
      clear c5
      (first | rw [c5b0] | (simp only [i64_w, i32_w]; rw [c5b0]) | skip)
      have H' := Aside0.mk H
      clear H
      go_wp2
      repeat (go_quiet (fail); try go_wp2)
      go_meet
      case rel => exact ⟨_, (true), (by first | rfl | (simp; done) | (simp [*]; done)), H', ⟨by first | omega | exact Nat.le_refl _⟩, ⟨by repeat (first | (with_reducible first | exact HB.out | apply below_alloc | apply pw_below_drewN | apply below_drew1) | exact HB.out)⟩⟩
    · rw [if_neg c5] at H
      have c5b0 : decide (a2 < 1) = false := decide_eq_false c5
      clear c5
      (first | rw [c5b0] | (simp only [i64_w, i32_w]; rw [c5b0]) | skip)
      have H' := Aside0.mk H
      clear H
      go_wp2
      repeat (go_quiet (fail); try go_wp2)
      go_meet
      case rel => exact ⟨_, (decide (a2 > 32)), (by first | rfl | (simp; done) | (simp [*]; done)), H', ⟨by first | omega | exact Nat.le_refl _⟩, ⟨by repeat (first | (with_reducible first | exact HB.out | apply below_alloc | apply pw_below_drewN | apply below_drew1) | exact HB.out)⟩⟩
  case rest =>
    clear HC4
    try clear p2
    try clear c4
    try clear c5
    try clear c5b0
    obtain ⟨kq, x14_3, rfl, HA, HJ3, HB⟩ := hcut
    cases kq with
    | zero => exact absurd HA.out (by simp [flywheelref05_Near.j0])
    | succ kj3 =>
      have H := HA.out
      clear HA
      simp only [flywheelref05_Near.j0] at H
      by_cases c6 : x14_3 = true
      · subst c6
        have H1 : (some a0) = some r := by rw [if_pos rfl] at H; exact H
        clear H
        have H := H1
        clear H1
        obtain rfl := Option.some.inj H
        go_wp2
        repeat (go_quiet (fail); try go_wp2)
        go_ret
        exact ⟨by first | rfl | (simp [errW_none, errW_some] <;> rfl) | (simp [*, errW_none, errW_some] <;> rfl), by repeat (first | (with_reducible first | exact HB.out | apply below_alloc | apply pw_below_drewN | apply below_drew1) | exact HB.out)⟩
      · replace c6 := Bool.eq_false_iff.mpr c6
        subst c6
        have H1 : (if 0 ≤ (IntKind.u64.wrap (a2)) then (if (shl .i64 1 (IntKind.u64.wrap (a2))) = 0 then (none) else ((flywheelref05_mod.f (wrap64 ((Int.tmod a1 (shl .i64 1 (IntKind.u64.wrap (a2)))) - (Int.tmod (mx (-1152921504606846976) (mn a0 1152921504606846976)) (shl .i64 1 (IntKind.u64.wrap (a2)))))) (shl .i64 1 (IntKind.u64.wrap (a2)))).bind fun t215 => (if t215 ≤ (wrap64 (Int.tdiv (shl .i64 1 (IntKind.u64.wrap (a2))) 2)) then (some (wrap64 ((mx (-1152921504606846976) (mn a0 1152921504606846976)) + t215))) else (some (wrap64 ((wrap64 ((mx (-1152921504606846976) (mn a0 1152921504606846976)) + t215)) - (shl .i64 1 (IntKind.u64.wrap (a2))))))))) else (none)) = some r := by rw [if_neg (show ¬ (false = true) by decide)] at H; exact H
        clear H
        have H := H1
        clear H1
        obtain ⟨ji7, hji7⟩ : ∃ j_ : Int, (mn a0 1152921504606846976) = j_ := ⟨_, rfl⟩
        replace H : (if 0 ≤ (IntKind.u64.wrap (a2)) then (if (shl .i64 1 (IntKind.u64.wrap (a2))) = 0 then (none) else ((flywheelref05_mod.f (wrap64 ((Int.tmod a1 (shl .i64 1 (IntKind.u64.wrap (a2)))) - (Int.tmod (mx (-1152921504606846976) (ji7)) (shl .i64 1 (IntKind.u64.wrap (a2)))))) (shl .i64 1 (IntKind.u64.wrap (a2)))).bind fun t215 => (if t215 ≤ (wrap64 (Int.tdiv (shl .i64 1 (IntKind.u64.wrap (a2))) 2)) then (some (wrap64 ((mx (-1152921504606846976) (ji7)) + t215))) else (some (wrap64 ((wrap64 ((mx (-1152921504606846976) (ji7)) + t215)) - (shl .i64 1 (IntKind.u64.wrap (a2))))))))) else (none)) = some r := by first | (rw [hji7] at H; exact H) | (simp only [hji7] at H ⊢; exact H)
        have hji7_ : (if 1152921504606846976 < a0 then 1152921504606846976 else a0) = ji7 := hji7
        obtain ⟨ji8, hji8⟩ : ∃ j_ : Int, (mx (-1152921504606846976) (ji7)) = j_ := ⟨_, rfl⟩
        replace H : (if 0 ≤ (IntKind.u64.wrap (a2)) then (if (shl .i64 1 (IntKind.u64.wrap (a2))) = 0 then (none) else ((flywheelref05_mod.f (wrap64 ((Int.tmod a1 (shl .i64 1 (IntKind.u64.wrap (a2)))) - (Int.tmod (ji8) (shl .i64 1 (IntKind.u64.wrap (a2)))))) (shl .i64 1 (IntKind.u64.wrap (a2)))).bind fun t215 => (if t215 ≤ (wrap64 (Int.tdiv (shl .i64 1 (IntKind.u64.wrap (a2))) 2)) then (some (wrap64 ((ji8) + t215))) else (some (wrap64 ((wrap64 ((ji8) + t215)) - (shl .i64 1 (IntKind.u64.wrap (a2))))))))) else (none)) = some r := by first | (rw [hji8] at H; exact H) | (simp only [hji8] at H ⊢; exact H)
        have hji8_ : (if (-1152921504606846976) < (ji7) then (ji7) else (-1152921504606846976)) = ji8 := hji8
        obtain ⟨ji9, hji9⟩ : ∃ j_ : Int, (IntKind.u64.wrap (a2)) = j_ := ⟨_, rfl⟩
        replace H : (if 0 ≤ (ji9) then (if (shl .i64 1 (ji9)) = 0 then (none) else ((flywheelref05_mod.f (wrap64 ((Int.tmod a1 (shl .i64 1 (ji9))) - (Int.tmod (ji8) (shl .i64 1 (ji9))))) (shl .i64 1 (ji9))).bind fun t215 => (if t215 ≤ (wrap64 (Int.tdiv (shl .i64 1 (ji9)) 2)) then (some (wrap64 ((ji8) + t215))) else (some (wrap64 ((wrap64 ((ji8) + t215)) - (shl .i64 1 (ji9)))))))) else (none)) = some r := by first | (rw [hji9] at H; exact H) | (simp only [hji9] at H ⊢; exact H)
        by_cases c10 : 0 ≤ (ji9)
        · rw [if_pos c10] at H
          have c10b0 := eq_true c10
          have c10b1 : decide (0 ≤ (ji9)) = true := decide_eq_true c10
          clear c10
          obtain ⟨ji11, hji11⟩ : ∃ j_ : Int, (shl .i64 1 (ji9)) = j_ := ⟨_, rfl⟩
          replace H : (if (ji11) = 0 then (none) else ((flywheelref05_mod.f (wrap64 ((Int.tmod a1 (ji11)) - (Int.tmod (ji8) (ji11)))) (ji11)).bind fun t215 => (if t215 ≤ (wrap64 (Int.tdiv (ji11) 2)) then (some (wrap64 ((ji8) + t215))) else (some (wrap64 ((wrap64 ((ji8) + t215)) - (ji11))))))) = some r := by first | (rw [hji11] at H; exact H) | (simp only [hji11] at H ⊢; exact H)
          have hji11_ : (IntKind.i64.wrap (1 * 2 ^ min (ji9).toNat 64)) = ji11 := hji11
          have hji11z : (ji9) ≤ 64 → (IntKind.i64.wrap (1 * 2 ^ (ji9).toNat)) = ji11 := shl_small hji11
          have hji11u : (IntKind.i64.wrap (2 ^ min (ji9).toNat 64)) = ji11 := by have h_ := hji11_; rw [Int.one_mul] at h_; exact h_
          have hji11v : (ji9) ≤ 64 → (IntKind.i64.wrap (2 ^ (ji9).toNat)) = ji11 := fun hle_ => by have h_ := hji11z hle_; rw [Int.one_mul] at h_; exact h_
          have hji11y : (wrap64 (1 * 2 ^ min (ji9).toNat 64)) = ji11 := (i64_w _).symm.trans hji11_
          have hji11x : (ji9) ≤ 64 → (wrap64 (1 * 2 ^ (ji9).toNat)) = ji11 := fun h_ => (i64_w _).symm.trans (hji11z h_)
          by_cases c12 : (ji11) = 0
          · rw [if_pos c12] at H
            exact absurd H (by simp)
          · rw [if_neg c12] at H
            have c12b0 : ((ji11) == 0) = false := beq_eq_false_iff_ne.mpr c12
            have c12b1 : ((ji11) != 0) = true := bne_iff_ne.mpr c12
            replace H := Option.bind_eq_some_iff.mp H
            obtain ⟨t215, A130, H⟩ := H
            replace H : (if t215 ≤ (wrap64 (Int.tdiv (ji11) 2)) then (some (wrap64 ((ji8) + t215))) else (some (wrap64 ((wrap64 ((ji8) + t215)) - (ji11))))) = some r := H
            have A13 := Aside0.mk A130
            clear A130
            by_cases c14 : t215 ≤ (wrap64 (Int.tdiv (ji11) 2))
            · rw [if_pos c14] at H
              have c14b0 : decide (t215 ≤ (wrap64 (Int.tdiv (ji11) 2))) = true := decide_eq_true c14
              clear c14
              obtain rfl := Option.some.inj H
              go_wp2_with (first | (go_at_call 47; (with_reducible refine (flywheelref05_mod.calls (wrap64 ((Int.tmod a1 (ji11)) - (Int.tmod (ji8) (ji11)))) ji11 t215 _ A13.out).mono ?_); rintro e w' ⟨rfl, ⟨nd, rfl⟩⟩; (try first | exact ⟨rfl, _, World.drewN_drewN _ _ _⟩ | exact ⟨rfl, _, Eq.trans (World.drewN_drewN _ _ _) (congrArg (World.drewN _) (Nat.add_assoc _ _ _))⟩)))
              repeat (go_quiet (first | (go_at_call 47; (with_reducible refine (flywheelref05_mod.calls (wrap64 ((Int.tmod a1 (ji11)) - (Int.tmod (ji8) (ji11)))) ji11 t215 _ A13.out).mono ?_); rintro e w' ⟨rfl, ⟨nd, rfl⟩⟩; (try first | exact ⟨rfl, _, World.drewN_drewN _ _ _⟩ | exact ⟨rfl, _, Eq.trans (World.drewN_drewN _ _ _) (congrArg (World.drewN _) (Nat.add_assoc _ _ _))⟩))); try go_wp2_with (first | (go_at_call 47; (with_reducible refine (flywheelref05_mod.calls (wrap64 ((Int.tmod a1 (ji11)) - (Int.tmod (ji8) (ji11)))) ji11 t215 _ A13.out).mono ?_); rintro e w' ⟨rfl, ⟨nd, rfl⟩⟩; (try first | exact ⟨rfl, _, World.drewN_drewN _ _ _⟩ | exact ⟨rfl, _, Eq.trans (World.drewN_drewN _ _ _) (congrArg (World.drewN _) (Nat.add_assoc _ _ _))⟩))))
              go_ret
              exact ⟨by first | rfl | (simp [errW_none, errW_some] <;> rfl) | (simp only [← hji7, ← hji8, ← hji9, ← hji11]; first | rfl | (simp [errW_none, errW_some] <;> rfl)) | (simp [*, errW_none, errW_some] <;> rfl), by repeat (first | (with_reducible first | exact HB.out | apply below_alloc | apply pw_below_drewN | apply below_drew1) | exact HB.out)⟩
            · rw [if_neg c14] at H
              have c14b0 : decide (t215 ≤ (wrap64 (Int.tdiv (ji11) 2))) = false := decide_eq_false c14
              clear c14
              obtain rfl := Option.some.inj H
              go_wp2_with (first | (go_at_call 47; (with_reducible refine (flywheelref05_mod.calls (wrap64 ((Int.tmod a1 (ji11)) - (Int.tmod (ji8) (ji11)))) ji11 t215 _ A13.out).mono ?_); rintro e w' ⟨rfl, ⟨nd, rfl⟩⟩; (try first | exact ⟨rfl, _, World.drewN_drewN _ _ _⟩ | exact ⟨rfl, _, Eq.trans (World.drewN_drewN _ _ _) (congrArg (World.drewN _) (Nat.add_assoc _ _ _))⟩)))
              repeat (go_quiet (first | (go_at_call 47; (with_reducible refine (flywheelref05_mod.calls (wrap64 ((Int.tmod a1 (ji11)) - (Int.tmod (ji8) (ji11)))) ji11 t215 _ A13.out).mono ?_); rintro e w' ⟨rfl, ⟨nd, rfl⟩⟩; (try first | exact ⟨rfl, _, World.drewN_drewN _ _ _⟩ | exact ⟨rfl, _, Eq.trans (World.drewN_drewN _ _ _) (congrArg (World.drewN _) (Nat.add_assoc _ _ _))⟩))); try go_wp2_with (first | (go_at_call 47; (with_reducible refine (flywheelref05_mod.calls (wrap64 ((Int.tmod a1 (ji11)) - (Int.tmod (ji8) (ji11)))) ji11 t215 _ A13.out).mono ?_); rintro e w' ⟨rfl, ⟨nd, rfl⟩⟩; (try first | exact ⟨rfl, _, World.drewN_drewN _ _ _⟩ | exact ⟨rfl, _, Eq.trans (World.drewN_drewN _ _ _) (congrArg (World.drewN _) (Nat.add_assoc _ _ _))⟩))))
              go_ret
              exact ⟨by first | rfl | (simp [errW_none, errW_some] <;> rfl) | (simp only [← hji7, ← hji8, ← hji9, ← hji11]; first | rfl | (simp [errW_none, errW_some] <;> rfl)) | (simp [*, errW_none, errW_some] <;> rfl), by repeat (first | (with_reducible first | exact HB.out | apply below_alloc | apply pw_below_drewN | apply below_drew1) | exact HB.out)⟩
        · rw [if_neg c10] at H
          exact absurd H (by simp)

/-! ### flywheelref04_FromStamp: function 30 -/
def flywheelref04_FromStamp.f (k : Nat) (a0 : Int) (a1 : Int) : Option (Int) := (flywheelref01_Clamp.f a1 (-1125899906842624) 1125899906842624).bind fun t216 => ((flywheelref02_Do.f t216 65536 1000000 1).bind fun t217 => ((flywheelref05_Near.f k t217 (wrap64 (a0)) 32).bind fun t218 => ((flywheelref02_Do.f t218 1000000 65536 3).bind fun t219 => (some t219))))
theorem flywheelref04_FromStamp.mono : ∀ a0 a1 k, LeO (flywheelref04_FromStamp.f k a0 a1) (flywheelref04_FromStamp.f (k + 1) a0 a1) := by
  intro a0 a1 k
  unfold flywheelref04_FromStamp.f
  repeat' first
      | (with_reducible exact flywheelref05_Near.mono _ _ _ _)
      | (with_reducible exact LeO.refl _)
      | (with_reducible exact LeO.none _)
      | (with_reducible refine LeO.ite ?_ ?_)
      | (with_reducible refine LeO.bind ?_ (fun _ => ?_))
      | exact flywheelref05_Near.mono _ _ _ _
      | exact LeO.none _
      | refine LeO.ite ?_ ?_
      | refine LeO.bind ?_ (fun _ => ?_)
set_option maxHeartbeats 8000000 in
set_option maxRecDepth 100000 in
theorem flywheelref04_FromStamp.calls (k : Nat) (a0 : Int) (a1 : Int) (r : Int) (w : World) (h : flywheelref04_FromStamp.f k a0 a1 = some r) :
    Calls Try.prog 30 #[.int .u32 a0, .int .i64 a1] w fun e w' => e = .returned (.int .i64 r) ∧ Below w.heap.size w w' := by
  have HB := Aside0.mk (Below.refl w.heap.size w)
  have H : ((flywheelref01_Clamp.f a1 (-1125899906842624) 1125899906842624).bind fun t216 => ((flywheelref02_Do.f t216 65536 1000000 1).bind fun t217 => ((flywheelref05_Near.f k t217 (wrap64 (a0)) 32).bind fun t218 => ((flywheelref02_Do.f t218 1000000 65536 3).bind fun t219 => (some t219))))) = some r := h
  clear h
  replace H := Option.bind_eq_some_iff.mp H
  obtain ⟨t216, A30, H⟩ := H
  replace H : ((flywheelref02_Do.f t216 65536 1000000 1).bind fun t217 => ((flywheelref05_Near.f k t217 (wrap64 (a0)) 32).bind fun t218 => ((flywheelref02_Do.f t218 1000000 65536 3).bind fun t219 => (some t219)))) = some r := H
  have A3 := Aside0.mk A30
  clear A30
  replace H := Option.bind_eq_some_iff.mp H
  obtain ⟨t217, A40, H⟩ := H
  replace H : ((flywheelref05_Near.f k t217 (wrap64 (a0)) 32).bind fun t218 => ((flywheelref02_Do.f t218 1000000 65536 3).bind fun t219 => (some t219))) = some r := H
  have A4 := Aside0.mk A40
  clear A40
  replace H := Option.bind_eq_some_iff.mp H
  obtain ⟨t218, A50, H⟩ := H
  replace H : ((flywheelref02_Do.f t218 1000000 65536 3).bind fun t219 => (some t219)) = some r := H
  have A5 := Aside0.mk A50
  clear A50
  replace H := Option.bind_eq_some_iff.mp H
  obtain ⟨t219, A60, H⟩ := H
  replace H : (some t219) = some r := H
  have A6 := Aside0.mk A60
  clear A60
  obtain rfl := Option.some.inj H
  go_enter Try.func30, Try.ntmps30
  go_wp2_with (first | ((with_reducible refine gate_callee (f := 40) rfl ?_); refine goesL_ (some 7) rfl rfl Try.func40 (by kernel_rfl) rfl #[.int .i64 a1, .int .i64 (-1125899906842624), .int .i64 1125899906842624] rfl (by (try simp only [List.map_toArray, List.map_cons, List.map_nil]); first | done | rfl | (simp only [List.length_drop, List.length_take]; rfl)) ?_; (with_reducible refine (flywheelref01_Clamp.calls a1 (-1125899906842624) 1125899906842624 t216 _ A3.out).mono ?_); rintro e w' ⟨rfl, ⟨nd, rfl⟩⟩; refine ⟨_, rfl, ?_⟩) | ((with_reducible refine gate_callee (f := 33) rfl ?_); refine goesL_ (some 8) rfl rfl Try.func33 (by kernel_rfl) rfl #[.int .i64 t216, .int .i64 65536, .int .i64 1000000, .int .i64 1] rfl (by (try simp only [List.map_toArray, List.map_cons, List.map_nil]); first | done | rfl | (simp only [List.length_drop, List.length_take]; rfl)) ?_; (with_reducible refine (flywheelref02_Do.calls t216 65536 1000000 1 t217 _ A4.out).mono ?_); rintro e w7 ⟨rfl, hb⟩; refine ⟨_, rfl, ?_⟩; have n0_ := Aside0.mk (below_step (by repeat (first | (with_reducible first | exact HB.out | apply below_alloc | apply pw_below_drewN | apply below_drew1) | exact HB.out)) hb); clear HB; have HB := n0_; clear n0_; (try clear hb); (try clear hb2); (try clear hk); (try clear hi)) | ((with_reducible refine gate_callee (f := 41) rfl ?_); refine goesL_ (some 12) rfl rfl Try.func41 (by kernel_rfl) rfl #[.int .i64 t217, .int .i64 (wrap64 (a0)), .int .i64 32] rfl (by (try simp only [List.map_toArray, List.map_cons, List.map_nil]); first | done | rfl | (simp only [List.length_drop, List.length_take]; rfl)) ?_; (with_reducible refine (flywheelref05_Near.calls k t217 (wrap64 (a0)) 32 t218 _ A5.out).mono ?_); rintro e w8 ⟨rfl, hb⟩; refine ⟨_, rfl, ?_⟩; have n0_ := Aside0.mk (below_step (by repeat (first | (with_reducible first | exact HB.out | apply below_alloc | apply pw_below_drewN | apply below_drew1) | exact HB.out)) hb); clear HB; have HB := n0_; clear n0_; (try clear hb); (try clear hb2); (try clear hk); (try clear hi)) | ((with_reducible refine gate_callee (f := 33) rfl ?_); refine goesL_ (some 13) rfl rfl Try.func33 (by kernel_rfl) rfl #[.int .i64 t218, .int .i64 1000000, .int .i64 65536, .int .i64 3] rfl (by (try simp only [List.map_toArray, List.map_cons, List.map_nil]); first | done | rfl | (simp only [List.length_drop, List.length_take]; rfl)) ?_; (with_reducible refine (flywheelref02_Do.calls t218 1000000 65536 3 t219 _ A6.out).mono ?_); rintro e w9 ⟨rfl, hb⟩; refine ⟨_, rfl, ?_⟩; have n0_ := Aside0.mk (below_step (by repeat (first | (with_reducible first | exact HB.out | apply below_alloc | apply pw_below_drewN | apply below_drew1) | exact HB.out)) hb); clear HB; have HB := n0_; clear n0_; (try clear hb); (try clear hb2); (try clear hk); (try clear hi)))
  go_ret
  exact ⟨by first | rfl | (simp [errW_none, errW_some] <;> rfl) | (simp [*, errW_none, errW_some] <;> rfl), by repeat (first | (with_reducible first | exact HB.out | apply below_alloc | apply pw_below_drewN | apply below_drew1) | exact HB.out)⟩

/-! ### flywheellaw04_UnitsStamps: function 12 -/
def flywheellaw04_UnitsStamps.f (k : Nat) (a0 : Int) (a1 : Int) (a2 : Int) : Option (Bool) := (units_Stamp.f a0).bind fun t220 => ((flywheelref04_Stamp.f a0).bind fun t221 => (if t220 = t221 then ((units_FromStamp.f a1 a2).bind fun t222 => ((flywheelref04_FromStamp.f k a1 a2).bind fun t223 => (if t222 = t223 then ((flywheellaw04_wakes.f).bind fun t224 => (some t224)) else (some false)))) else (some false)))
theorem flywheellaw04_UnitsStamps.mono : ∀ a0 a1 a2 k, LeO (flywheellaw04_UnitsStamps.f k a0 a1 a2) (flywheellaw04_UnitsStamps.f (k + 1) a0 a1 a2) := by
  intro a0 a1 a2 k
  unfold flywheellaw04_UnitsStamps.f
  repeat' first
      | (with_reducible exact flywheelref04_FromStamp.mono _ _ _)
      | (with_reducible exact LeO.refl _)
      | (with_reducible exact LeO.none _)
      | (with_reducible refine LeO.ite ?_ ?_)
      | (with_reducible refine LeO.bind ?_ (fun _ => ?_))
      | exact flywheelref04_FromStamp.mono _ _ _
      | exact LeO.none _
      | refine LeO.ite ?_ ?_
      | refine LeO.bind ?_ (fun _ => ?_)
set_option maxHeartbeats 8000000 in
set_option maxRecDepth 100000 in
theorem flywheellaw04_UnitsStamps.calls (k : Nat) (a0 : Int) (a1 : Int) (a2 : Int) (r : Bool) (w : World) (h : flywheellaw04_UnitsStamps.f k a0 a1 a2 = some r) :
    Calls Try.prog 12 #[.int .i64 a0, .int .u32 a1, .int .i64 a2] w fun e w' => e = .returned (.bool r) ∧ Below w.heap.size w w' := by
  have HB := Aside0.mk (Below.refl w.heap.size w)
  have H : ((units_Stamp.f a0).bind fun t220 => ((flywheelref04_Stamp.f a0).bind fun t221 => (if t220 = t221 then ((units_FromStamp.f a1 a2).bind fun t222 => ((flywheelref04_FromStamp.f k a1 a2).bind fun t223 => (if t222 = t223 then ((flywheellaw04_wakes.f).bind fun t224 => (some t224)) else (some false)))) else (some false)))) = some r := h
  clear h
  replace H := Option.bind_eq_some_iff.mp H
  obtain ⟨t220, A40, H⟩ := H
  replace H : ((flywheelref04_Stamp.f a0).bind fun t221 => (if t220 = t221 then ((units_FromStamp.f a1 a2).bind fun t222 => ((flywheelref04_FromStamp.f k a1 a2).bind fun t223 => (if t222 = t223 then ((flywheellaw04_wakes.f).bind fun t224 => (some t224)) else (some false)))) else (some false))) = some r := H
  have A4 := Aside0.mk A40
  clear A40
  replace H := Option.bind_eq_some_iff.mp H
  obtain ⟨t221, A50, H⟩ := H
  replace H : (if t220 = t221 then ((units_FromStamp.f a1 a2).bind fun t222 => ((flywheelref04_FromStamp.f k a1 a2).bind fun t223 => (if t222 = t223 then ((flywheellaw04_wakes.f).bind fun t224 => (some t224)) else (some false)))) else (some false)) = some r := H
  have A5 := Aside0.mk A50
  clear A50
  by_cases c6 : t220 = t221
  · rw [if_pos c6] at H
    have c6b0 : (t220 == t221) = true := beq_iff_eq.mpr c6
    have c6b1 : (t220 != t221) = false := bne_eq_false_iff_eq.mpr c6
    clear c6
    replace H := Option.bind_eq_some_iff.mp H
    obtain ⟨t222, A70, H⟩ := H
    replace H : ((flywheelref04_FromStamp.f k a1 a2).bind fun t223 => (if t222 = t223 then ((flywheellaw04_wakes.f).bind fun t224 => (some t224)) else (some false))) = some r := H
    have A7 := Aside0.mk A70
    clear A70
    replace H := Option.bind_eq_some_iff.mp H
    obtain ⟨t223, A80, H⟩ := H
    replace H : (if t222 = t223 then ((flywheellaw04_wakes.f).bind fun t224 => (some t224)) else (some false)) = some r := H
    have A8 := Aside0.mk A80
    clear A80
    by_cases c9 : t222 = t223
    · rw [if_pos c9] at H
      have c9b0 : (t222 == t223) = true := beq_iff_eq.mpr c9
      have c9b1 : (t222 != t223) = false := bne_eq_false_iff_eq.mpr c9
      clear c9
      replace H := Option.bind_eq_some_iff.mp H
      obtain ⟨t224, A100, H⟩ := H
      replace H : (some t224) = some r := H
      have A10 := Aside0.mk A100
      clear A100
      obtain rfl := Option.some.inj H
      go_enter Try.func12, Try.ntmps12
      go_wp2_with (first | ((with_reducible refine gate_callee (f := 27) rfl ?_); refine goesL_ (some 8) rfl rfl Try.func27 (by kernel_rfl) rfl #[.int .i64 a0] rfl (by (try simp only [List.map_toArray, List.map_cons, List.map_nil]); first | done | rfl | (simp only [List.length_drop, List.length_take]; rfl)) ?_; (with_reducible refine (units_Stamp.calls a0 t220 _ A4.out).mono ?_); rintro e w11 ⟨rfl, hb⟩; refine ⟨_, rfl, ?_⟩; have n0_ := Aside0.mk (below_step (by repeat (first | (with_reducible first | exact HB.out | apply below_alloc | apply pw_below_drewN | apply below_drew1) | exact HB.out)) hb); clear HB; have HB := n0_; clear n0_; (try clear hb); (try clear hb2); (try clear hk); (try clear hi)) | ((with_reducible refine gate_callee (f := 28) rfl ?_); refine goesL_ (some 10) rfl rfl Try.func28 (by kernel_rfl) rfl #[.int .i64 a0] rfl (by (try simp only [List.map_toArray, List.map_cons, List.map_nil]); first | done | rfl | (simp only [List.length_drop, List.length_take]; rfl)) ?_; (with_reducible refine (flywheelref04_Stamp.calls a0 t221 _ A5.out).mono ?_); rintro e w12 ⟨rfl, hb⟩; refine ⟨_, rfl, ?_⟩; have n0_ := Aside0.mk (below_step (by repeat (first | (with_reducible first | exact HB.out | apply below_alloc | apply pw_below_drewN | apply below_drew1) | exact HB.out)) hb); clear HB; have HB := n0_; clear n0_; (try clear hb); (try clear hb2); (try clear hk); (try clear hi)) | (go_at_call 29; (with_reducible refine (units_FromStamp.calls a1 a2 t222 _ A7.out).mono ?_); rintro e w13 ⟨rfl, hb⟩; have n0_ := Aside0.mk (below_step (by repeat (first | (with_reducible first | exact HB.out | apply below_alloc | apply pw_below_drewN | apply below_drew1) | exact HB.out)) hb); clear HB; have HB := n0_; clear n0_; (try clear hb); (try clear hb2); (try clear hk); (try clear hi)) | (go_at_call 30; (with_reducible refine (flywheelref04_FromStamp.calls k a1 a2 t223 _ A8.out).mono ?_); rintro e w14 ⟨rfl, hb⟩; have n0_ := Aside0.mk (below_step (by repeat (first | (with_reducible first | exact HB.out | apply below_alloc | apply pw_below_drewN | apply below_drew1) | exact HB.out)) hb); clear HB; have HB := n0_; clear n0_; (try clear hb); (try clear hb2); (try clear hk); (try clear hi)) | (go_at_call 20; (with_reducible refine (flywheellaw04_wakes.calls  t224 _ A10.out).mono ?_); rintro e w15 ⟨rfl, hb⟩; have n0_ := Aside0.mk (below_step (by repeat (first | (with_reducible first | exact HB.out | apply below_alloc | apply pw_below_drewN | apply below_drew1) | exact HB.out)) hb); clear HB; have HB := n0_; clear n0_; (try clear hb); (try clear hb2); (try clear hk); (try clear hi)))
      go_ret
      exact ⟨by first | rfl | (simp [errW_none, errW_some] <;> rfl) | (simp [*, errW_none, errW_some] <;> rfl), by repeat (first | (with_reducible first | exact HB.out | apply below_alloc | apply pw_below_drewN | apply below_drew1) | exact HB.out)⟩
    · rw [if_neg c9] at H
      have c9b0 : (t222 == t223) = false := beq_eq_false_iff_ne.mpr c9
      have c9b1 : (t222 != t223) = true := bne_iff_ne.mpr c9
      obtain rfl := Option.some.inj H
      go_enter Try.func12, Try.ntmps12
      go_wp2_with (first | ((with_reducible refine gate_callee (f := 27) rfl ?_); refine goesL_ (some 8) rfl rfl Try.func27 (by kernel_rfl) rfl #[.int .i64 a0] rfl (by (try simp only [List.map_toArray, List.map_cons, List.map_nil]); first | done | rfl | (simp only [List.length_drop, List.length_take]; rfl)) ?_; (with_reducible refine (units_Stamp.calls a0 t220 _ A4.out).mono ?_); rintro e w16 ⟨rfl, hb⟩; refine ⟨_, rfl, ?_⟩; have n0_ := Aside0.mk (below_step (by repeat (first | (with_reducible first | exact HB.out | apply below_alloc | apply pw_below_drewN | apply below_drew1) | exact HB.out)) hb); clear HB; have HB := n0_; clear n0_; (try clear hb); (try clear hb2); (try clear hk); (try clear hi)) | ((with_reducible refine gate_callee (f := 28) rfl ?_); refine goesL_ (some 10) rfl rfl Try.func28 (by kernel_rfl) rfl #[.int .i64 a0] rfl (by (try simp only [List.map_toArray, List.map_cons, List.map_nil]); first | done | rfl | (simp only [List.length_drop, List.length_take]; rfl)) ?_; (with_reducible refine (flywheelref04_Stamp.calls a0 t221 _ A5.out).mono ?_); rintro e w17 ⟨rfl, hb⟩; refine ⟨_, rfl, ?_⟩; have n0_ := Aside0.mk (below_step (by repeat (first | (with_reducible first | exact HB.out | apply below_alloc | apply pw_below_drewN | apply below_drew1) | exact HB.out)) hb); clear HB; have HB := n0_; clear n0_; (try clear hb); (try clear hb2); (try clear hk); (try clear hi)) | (go_at_call 29; (with_reducible refine (units_FromStamp.calls a1 a2 t222 _ A7.out).mono ?_); rintro e w18 ⟨rfl, hb⟩; have n0_ := Aside0.mk (below_step (by repeat (first | (with_reducible first | exact HB.out | apply below_alloc | apply pw_below_drewN | apply below_drew1) | exact HB.out)) hb); clear HB; have HB := n0_; clear n0_; (try clear hb); (try clear hb2); (try clear hk); (try clear hi)) | (go_at_call 30; (with_reducible refine (flywheelref04_FromStamp.calls k a1 a2 t223 _ A8.out).mono ?_); rintro e w19 ⟨rfl, hb⟩; have n0_ := Aside0.mk (below_step (by repeat (first | (with_reducible first | exact HB.out | apply below_alloc | apply pw_below_drewN | apply below_drew1) | exact HB.out)) hb); clear HB; have HB := n0_; clear n0_; (try clear hb); (try clear hb2); (try clear hk); (try clear hi)))
      go_ret
      exact ⟨by first | rfl | (simp [errW_none, errW_some] <;> rfl) | (simp [*, errW_none, errW_some] <;> rfl), by repeat (first | (with_reducible first | exact HB.out | apply below_alloc | apply pw_below_drewN | apply below_drew1) | exact HB.out)⟩
  · rw [if_neg c6] at H
    have c6b0 : (t220 == t221) = false := beq_eq_false_iff_ne.mpr c6
    have c6b1 : (t220 != t221) = true := bne_iff_ne.mpr c6
    obtain rfl := Option.some.inj H
    go_enter Try.func12, Try.ntmps12
    go_wp2_with (first | ((with_reducible refine gate_callee (f := 27) rfl ?_); refine goesL_ (some 8) rfl rfl Try.func27 (by kernel_rfl) rfl #[.int .i64 a0] rfl (by (try simp only [List.map_toArray, List.map_cons, List.map_nil]); first | done | rfl | (simp only [List.length_drop, List.length_take]; rfl)) ?_; (with_reducible refine (units_Stamp.calls a0 t220 _ A4.out).mono ?_); rintro e w20 ⟨rfl, hb⟩; refine ⟨_, rfl, ?_⟩; have n0_ := Aside0.mk (below_step (by repeat (first | (with_reducible first | exact HB.out | apply below_alloc | apply pw_below_drewN | apply below_drew1) | exact HB.out)) hb); clear HB; have HB := n0_; clear n0_; (try clear hb); (try clear hb2); (try clear hk); (try clear hi)) | ((with_reducible refine gate_callee (f := 28) rfl ?_); refine goesL_ (some 10) rfl rfl Try.func28 (by kernel_rfl) rfl #[.int .i64 a0] rfl (by (try simp only [List.map_toArray, List.map_cons, List.map_nil]); first | done | rfl | (simp only [List.length_drop, List.length_take]; rfl)) ?_; (with_reducible refine (flywheelref04_Stamp.calls a0 t221 _ A5.out).mono ?_); rintro e w21 ⟨rfl, hb⟩; refine ⟨_, rfl, ?_⟩; have n0_ := Aside0.mk (below_step (by repeat (first | (with_reducible first | exact HB.out | apply below_alloc | apply pw_below_drewN | apply below_drew1) | exact HB.out)) hb); clear HB; have HB := n0_; clear n0_; (try clear hb); (try clear hb2); (try clear hk); (try clear hi)))
    go_ret
    exact ⟨by first | rfl | (simp [errW_none, errW_some] <;> rfl) | (simp [*, errW_none, errW_some] <;> rfl), by repeat (first | (with_reducible first | exact HB.out | apply below_alloc | apply pw_below_drewN | apply below_drew1) | exact HB.out)⟩

/-- THE ONE PURE STATEMENT of flywheellaw04_UnitsStamps: yours. -/
def flywheellaw04_UnitsStamps.Pure : Prop := ∀ (a0 : Int) (a1 : Int) (a2 : Int), (Lit.int .i64 a0).wf = true → (Lit.int .u32 a1).wf = true → (Lit.int .i64 a2).wf = true → ∃ k, flywheellaw04_UnitsStamps.f k a0 a1 a2 = some true
theorem flywheellaw04_UnitsStamps.walk (P : flywheellaw04_UnitsStamps.Pure) (a0 : Int) (a1 : Int) (a2 : Int) (w : World) (w0 : (Lit.int .i64 a0).wf = true) (w1 : (Lit.int .u32 a1).wf = true) (w2 : (Lit.int .i64 a2).wf = true) :
    Calls Try.prog 12 #[.int .i64 a0, .int .u32 a1, .int .i64 a2] w fun e w' => e = .returned (.bool true) ∧ Below w.heap.size w w' := by
  obtain ⟨k, h⟩ := P a0 a1 a2 w0 w1 w2
  refine (flywheellaw04_UnitsStamps.calls k a0 a1 a2 true w h).mono ?_
  rintro e w' ⟨rfl, hd⟩
  exact ⟨rfl, hd⟩

end Go.Proofs.Ytipdmihaidpnpaa.P

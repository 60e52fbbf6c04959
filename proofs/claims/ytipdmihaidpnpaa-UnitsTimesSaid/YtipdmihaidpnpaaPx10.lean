-- WRITTEN by a program of this session over the kit's print (hprint.py): functions proved by hand stand among the printed ones
import Derived.Test.YtipdmihaidpnpaaPx0
import Derived.Test.YtipdmihaidpnpaaPx6
import Derived.Test.YtipdmihaidpnpaaPx9
namespace Go.Proofs.Ytipdmihaidpnpaa.P
open Go.RowKit Go.Proofs.YtipdmihaidpnpaaW.PrintWords Go.Proofs.YtipdmihaidpnpaaW.PrintLast Go.Proofs.YtipdmihaidpnpaaW.PrintMore
attribute [local go_sem] max2_int min2_int max_two min_two max_three min_three max_four min_four   -- for this text's walks alone
set_option linter.unusedVariables false
set_option linter.unusedSimpArgs false

/-! ### flywheellaw04_UnitsTimes: function 13 -/
def flywheellaw04_UnitsTimes.j0 : Nat → Int → Int → Bool → Option (Bool)
  | 0, _, _, _ => none
  | k + 1, x5, x6, x22 => if x22 = true then ((flywheellaw04_wakes.f).bind fun t225 => (some t225)) else ((units_Stamp.f x5).bind fun t226 => ((units_FromStamp.f t226 x6).bind fun t227 => (if t227 ≤ x5 then (if (wrap64 (x5 - t227)) ≤ 16 then ((flywheellaw04_wakes.f).bind fun t228 => (some t228)) else (some false)) else (some false))))
def flywheellaw04_UnitsTimes.f (k : Nat) (a0 : Int) (a1 : Int) : Option (Bool) := if (wrap64 ((Int.tmod (wrap64 ((Int.tmod a0 1125899906842624) + 1125899906842624)) 1125899906842624) + (wrap64 (a1)))) < 0 then (flywheellaw04_UnitsTimes.j0 k (Int.tmod (wrap64 ((Int.tmod a0 1125899906842624) + 1125899906842624)) 1125899906842624) (wrap64 ((Int.tmod (wrap64 ((Int.tmod a0 1125899906842624) + 1125899906842624)) 1125899906842624) + (wrap64 (a1)))) true) else (flywheellaw04_UnitsTimes.j0 k (Int.tmod (wrap64 ((Int.tmod a0 1125899906842624) + 1125899906842624)) 1125899906842624) (wrap64 ((Int.tmod (wrap64 ((Int.tmod a0 1125899906842624) + 1125899906842624)) 1125899906842624) + (wrap64 (a1)))) (decide ((wrap64 ((Int.tmod (wrap64 ((Int.tmod a0 1125899906842624) + 1125899906842624)) 1125899906842624) + (wrap64 (a1)))) > 1125899906842624)))
theorem flywheellaw04_UnitsTimes.mono_l : ∀ k, (∀ y0 y1 y2, LeO (flywheellaw04_UnitsTimes.j0 k y0 y1 y2) (flywheellaw04_UnitsTimes.j0 (k + 1) y0 y1 y2))
  | 0 => fun _ _ _ r h => by simp [flywheellaw04_UnitsTimes.j0] at h
  | k + 1 => by
    have ih0 := flywheellaw04_UnitsTimes.mono_l k
    · intro y0 y1 y2
      unfold flywheellaw04_UnitsTimes.j0
      repeat' first
      | (with_reducible exact ih0 _ _ _)
      | (with_reducible exact LeO.refl _)
      | (with_reducible exact LeO.none _)
      | (with_reducible refine LeO.ite ?_ ?_)
      | (with_reducible refine LeO.bind ?_ (fun _ => ?_))
      | exact ih0 _ _ _
      | exact LeO.none _
      | refine LeO.ite ?_ ?_
      | refine LeO.bind ?_ (fun _ => ?_)
theorem flywheellaw04_UnitsTimes.mono : ∀ a0 a1 k, LeO (flywheellaw04_UnitsTimes.f k a0 a1) (flywheellaw04_UnitsTimes.f (k + 1) a0 a1) := by
  intro a0 a1 k
  have ih0 := flywheellaw04_UnitsTimes.mono_l k
  unfold flywheellaw04_UnitsTimes.f
  repeat' first
      | (with_reducible exact ih0 _ _ _)
      | (with_reducible exact LeO.refl _)
      | (with_reducible exact LeO.none _)
      | (with_reducible refine LeO.ite ?_ ?_)
      | (with_reducible refine LeO.bind ?_ (fun _ => ?_))
      | exact ih0 _ _ _
      | exact LeO.none _
      | refine LeO.ite ?_ ?_
      | refine LeO.bind ?_ (fun _ => ?_)
set_option maxHeartbeats 8000000 in
set_option maxRecDepth 100000 in
theorem flywheellaw04_UnitsTimes.calls (k : Nat) (a0 : Int) (a1 : Int) (r : Bool) (w : World) (h : flywheellaw04_UnitsTimes.f k a0 a1 = some r) :
    Calls Try.prog 13 #[.int .i64 a0, .int .i32 a1] w fun e w' => e = .returned (.bool r) ∧ Below w.heap.size w w' := by
  have HB := Aside0.mk (Below.refl w.heap.size w)
  have H : (if (wrap64 ((Int.tmod (wrap64 ((Int.tmod a0 1125899906842624) + 1125899906842624)) 1125899906842624) + (wrap64 (a1)))) < 0 then (flywheellaw04_UnitsTimes.j0 k (Int.tmod (wrap64 ((Int.tmod a0 1125899906842624) + 1125899906842624)) 1125899906842624) (wrap64 ((Int.tmod (wrap64 ((Int.tmod a0 1125899906842624) + 1125899906842624)) 1125899906842624) + (wrap64 (a1)))) true) else (flywheellaw04_UnitsTimes.j0 k (Int.tmod (wrap64 ((Int.tmod a0 1125899906842624) + 1125899906842624)) 1125899906842624) (wrap64 ((Int.tmod (wrap64 ((Int.tmod a0 1125899906842624) + 1125899906842624)) 1125899906842624) + (wrap64 (a1)))) (decide ((wrap64 ((Int.tmod (wrap64 ((Int.tmod a0 1125899906842624) + 1125899906842624)) 1125899906842624) + (wrap64 (a1)))) > 1125899906842624)))) = some r := h
  clear h
  have HC3 := Aside0.mk H
  clear H
  go_enter Try.func13, Try.ntmps13
  go_upto_region 4 with (fail)
  go_cut [22] (fun v22 wc => ∃ (kq : Nat) (x22_2 : Bool), v22 = .bool x22_2 ∧ Aside0 (flywheellaw04_UnitsTimes.j0 kq (Int.tmod (wrap64 ((Int.tmod a0 1125899906842624) + 1125899906842624)) 1125899906842624) (wrap64 ((Int.tmod (wrap64 ((Int.tmod a0 1125899906842624) + 1125899906842624)) 1125899906842624) + (wrap64 (a1)))) x22_2 = some r) ∧ Aside0 (kq ≤ k) ∧ Aside0 (Below w.heap.size w wc))
  case first =>
    have H := HC3.out
    clear HC3
    by_cases c4 : (wrap64 ((Int.tmod (wrap64 ((Int.tmod a0 1125899906842624) + 1125899906842624)) 1125899906842624) + (wrap64 (a1)))) < 0
    · rw [if_pos c4] at H
      have c4b0 : decide ((wrap64 ((Int.tmod (wrap64 ((Int.tmod a0 1125899906842624) + 1125899906842624)) 1125899906842624) + (wrap64 (a1)))) < 0) = true := decide_eq_true c4
      clear c4
      (first | rw [c4b0] | (simp only [i64_w, i32_w]; rw [c4b0]) | skip)
      have H' := Aside0.mk H
      clear H
      go_wp2
      go_meet
      case rel => exact ⟨_, (true), (by first | rfl | (simp; done) | (simp [*]; done)), H', ⟨by first | omega | exact Nat.le_refl _⟩, ⟨by repeat (first | (with_reducible first | exact HB.out | apply below_alloc | apply pw_below_drewN | apply below_drew1) | exact HB.out)⟩⟩
    · rw [if_neg c4] at H
      have c4b0 : decide ((wrap64 ((Int.tmod (wrap64 ((Int.tmod a0 1125899906842624) + 1125899906842624)) 1125899906842624) + (wrap64 (a1)))) < 0) = false := decide_eq_false c4
      clear c4
      (first | rw [c4b0] | (simp only [i64_w, i32_w]; rw [c4b0]) | skip)
      have H' := Aside0.mk H
      clear H
      go_wp2
      go_meet
      case rel => exact ⟨_, (decide ((wrap64 ((Int.tmod (wrap64 ((Int.tmod a0 1125899906842624) + 1125899906842624)) 1125899906842624) + (wrap64 (a1)))) > 1125899906842624)), (by first | rfl | (simp; done) | (simp [*]; done)), H', ⟨by first | omega | exact Nat.le_refl _⟩, ⟨by repeat (first | (with_reducible first | exact HB.out | apply below_alloc | apply pw_below_drewN | apply below_drew1) | exact HB.out)⟩⟩
  case rest =>
    clear HC3
    try clear c1
    try clear p2
    try clear c4
    try clear c4b0
    obtain ⟨kq, x22_2, rfl, HA, HJ2, HB⟩ := hcut
    cases kq with
    | zero => exact absurd HA.out (by simp [flywheellaw04_UnitsTimes.j0])
    | succ kj2 =>
      have H := HA.out
      clear HA
      simp only [flywheellaw04_UnitsTimes.j0] at H
      by_cases c5 : x22_2 = true
      · subst c5
        have H1 : ((flywheellaw04_wakes.f).bind fun t225 => (some t225)) = some r := by rw [if_pos rfl] at H; exact H
        clear H
        have H := H1
        clear H1
        replace H := Option.bind_eq_some_iff.mp H
        obtain ⟨t225, A60, H⟩ := H
        replace H : (some t225) = some r := H
        have A6 := Aside0.mk A60
        clear A60
        obtain rfl := Option.some.inj H
        go_wp2_with (first | ((with_reducible refine gate_callee (f := 20) rfl ?_); refine goesL_ (some 23) rfl rfl Try.func20 (by kernel_rfl) rfl #[] rfl (by (try simp only [List.map_toArray, List.map_cons, List.map_nil]); first | done | rfl | (simp only [List.length_drop, List.length_take]; rfl)) ?_; (with_reducible refine (flywheellaw04_wakes.calls  t225 _ A6.out).mono ?_); rintro e w7 ⟨rfl, hb⟩; refine ⟨_, rfl, ?_⟩; have n0_ := Aside0.mk (below_step (by repeat (first | (with_reducible first | exact HB.out | apply below_alloc | apply pw_below_drewN | apply below_drew1) | exact HB.out)) hb); clear HB; have HB := n0_; clear n0_; (try clear hb); (try clear hb2); (try clear hk); (try clear hi)))
        go_ret
        exact ⟨by first | rfl | (simp [errW_none, errW_some] <;> rfl) | (simp [*, errW_none, errW_some] <;> rfl), by repeat (first | (with_reducible first | exact HB.out | apply below_alloc | apply pw_below_drewN | apply below_drew1) | exact HB.out)⟩
      · replace c5 := Bool.eq_false_iff.mpr c5
        subst c5
        have H1 : ((units_Stamp.f (Int.tmod (wrap64 ((Int.tmod a0 1125899906842624) + 1125899906842624)) 1125899906842624)).bind fun t226 => ((units_FromStamp.f t226 (wrap64 ((Int.tmod (wrap64 ((Int.tmod a0 1125899906842624) + 1125899906842624)) 1125899906842624) + (wrap64 (a1))))).bind fun t227 => (if t227 ≤ (Int.tmod (wrap64 ((Int.tmod a0 1125899906842624) + 1125899906842624)) 1125899906842624) then (if (wrap64 ((Int.tmod (wrap64 ((Int.tmod a0 1125899906842624) + 1125899906842624)) 1125899906842624) - t227)) ≤ 16 then ((flywheellaw04_wakes.f).bind fun t228 => (some t228)) else (some false)) else (some false)))) = some r := by rw [if_neg (show ¬ (false = true) by decide)] at H; exact H
        clear H
        have H := H1
        clear H1
        replace H := Option.bind_eq_some_iff.mp H
        obtain ⟨t226, A80, H⟩ := H
        replace H : ((units_FromStamp.f t226 (wrap64 ((Int.tmod (wrap64 ((Int.tmod a0 1125899906842624) + 1125899906842624)) 1125899906842624) + (wrap64 (a1))))).bind fun t227 => (if t227 ≤ (Int.tmod (wrap64 ((Int.tmod a0 1125899906842624) + 1125899906842624)) 1125899906842624) then (if (wrap64 ((Int.tmod (wrap64 ((Int.tmod a0 1125899906842624) + 1125899906842624)) 1125899906842624) - t227)) ≤ 16 then ((flywheellaw04_wakes.f).bind fun t228 => (some t228)) else (some false)) else (some false))) = some r := H
        have A8 := Aside0.mk A80
        clear A80
        replace H := Option.bind_eq_some_iff.mp H
        obtain ⟨t227, A90, H⟩ := H
        replace H : (if t227 ≤ (Int.tmod (wrap64 ((Int.tmod a0 1125899906842624) + 1125899906842624)) 1125899906842624) then (if (wrap64 ((Int.tmod (wrap64 ((Int.tmod a0 1125899906842624) + 1125899906842624)) 1125899906842624) - t227)) ≤ 16 then ((flywheellaw04_wakes.f).bind fun t228 => (some t228)) else (some false)) else (some false)) = some r := H
        have A9 := Aside0.mk A90
        clear A90
        by_cases c10 : t227 ≤ (Int.tmod (wrap64 ((Int.tmod a0 1125899906842624) + 1125899906842624)) 1125899906842624)
        · rw [if_pos c10] at H
          have c10b0 : decide (t227 ≤ (Int.tmod (wrap64 ((Int.tmod a0 1125899906842624) + 1125899906842624)) 1125899906842624)) = true := decide_eq_true c10
          clear c10
          by_cases c11 : (wrap64 ((Int.tmod (wrap64 ((Int.tmod a0 1125899906842624) + 1125899906842624)) 1125899906842624) - t227)) ≤ 16
          · rw [if_pos c11] at H
            have c11b0 : decide ((wrap64 ((Int.tmod (wrap64 ((Int.tmod a0 1125899906842624) + 1125899906842624)) 1125899906842624) - t227)) ≤ 16) = true := decide_eq_true c11
            clear c11
            replace H := Option.bind_eq_some_iff.mp H
            obtain ⟨t228, A120, H⟩ := H
            replace H : (some t228) = some r := H
            have A12 := Aside0.mk A120
            clear A120
            obtain rfl := Option.some.inj H
            go_wp2_with (first | ((with_reducible refine gate_callee (f := 27) rfl ?_); refine goesL_ (some 25) rfl rfl Try.func27 (by kernel_rfl) rfl #[.int .i64 (Int.tmod (wrap64 ((Int.tmod a0 1125899906842624) + 1125899906842624)) 1125899906842624)] rfl (by (try simp only [List.map_toArray, List.map_cons, List.map_nil]); first | done | rfl | (simp only [List.length_drop, List.length_take]; rfl)) ?_; (with_reducible refine (units_Stamp.calls (Int.tmod (wrap64 ((Int.tmod a0 1125899906842624) + 1125899906842624)) 1125899906842624) t226 _ A8.out).mono ?_); rintro e w13 ⟨rfl, hb⟩; refine ⟨_, rfl, ?_⟩; have n0_ := Aside0.mk (below_step (by repeat (first | (with_reducible first | exact HB.out | apply below_alloc | apply pw_below_drewN | apply below_drew1) | exact HB.out)) hb); clear HB; have HB := n0_; clear n0_; (try clear hb); (try clear hb2); (try clear hk); (try clear hi)) | ((with_reducible refine gate_callee (f := 29) rfl ?_); refine goesL_ (some 27) rfl rfl Try.func29 (by kernel_rfl) rfl #[.int .u32 t226, .int .i64 (wrap64 ((Int.tmod (wrap64 ((Int.tmod a0 1125899906842624) + 1125899906842624)) 1125899906842624) + (wrap64 (a1))))] rfl (by (try simp only [List.map_toArray, List.map_cons, List.map_nil]); first | done | rfl | (simp only [List.length_drop, List.length_take]; rfl)) ?_; (with_reducible refine (units_FromStamp.calls t226 (wrap64 ((Int.tmod (wrap64 ((Int.tmod a0 1125899906842624) + 1125899906842624)) 1125899906842624) + (wrap64 (a1)))) t227 _ A9.out).mono ?_); rintro e w14 ⟨rfl, hb⟩; refine ⟨_, rfl, ?_⟩; have n0_ := Aside0.mk (below_step (by repeat (first | (with_reducible first | exact HB.out | apply below_alloc | apply pw_below_drewN | apply below_drew1) | exact HB.out)) hb); clear HB; have HB := n0_; clear n0_; (try clear hb); (try clear hb2); (try clear hk); (try clear hi)) | (go_at_call 20; (with_reducible refine (flywheellaw04_wakes.calls  t228 _ A12.out).mono ?_); rintro e w15 ⟨rfl, hb⟩; have n0_ := Aside0.mk (below_step (by repeat (first | (with_reducible first | exact HB.out | apply below_alloc | apply pw_below_drewN | apply below_drew1) | exact HB.out)) hb); clear HB; have HB := n0_; clear n0_; (try clear hb); (try clear hb2); (try clear hk); (try clear hi)))
            go_ret
            exact ⟨by first | rfl | (simp [errW_none, errW_some] <;> rfl) | (simp [*, errW_none, errW_some] <;> rfl), by repeat (first | (with_reducible first | exact HB.out | apply below_alloc | apply pw_below_drewN | apply below_drew1) | exact HB.out)⟩
          · rw [if_neg c11] at H
            have c11b0 : decide ((wrap64 ((Int.tmod (wrap64 ((Int.tmod a0 1125899906842624) + 1125899906842624)) 1125899906842624) - t227)) ≤ 16) = false := decide_eq_false c11
            clear c11
            obtain rfl := Option.some.inj H
            go_wp2_with (first | ((with_reducible refine gate_callee (f := 27) rfl ?_); refine goesL_ (some 25) rfl rfl Try.func27 (by kernel_rfl) rfl #[.int .i64 (Int.tmod (wrap64 ((Int.tmod a0 1125899906842624) + 1125899906842624)) 1125899906842624)] rfl (by (try simp only [List.map_toArray, List.map_cons, List.map_nil]); first | done | rfl | (simp only [List.length_drop, List.length_take]; rfl)) ?_; (with_reducible refine (units_Stamp.calls (Int.tmod (wrap64 ((Int.tmod a0 1125899906842624) + 1125899906842624)) 1125899906842624) t226 _ A8.out).mono ?_); rintro e w16 ⟨rfl, hb⟩; refine ⟨_, rfl, ?_⟩; have n0_ := Aside0.mk (below_step (by repeat (first | (with_reducible first | exact HB.out | apply below_alloc | apply pw_below_drewN | apply below_drew1) | exact HB.out)) hb); clear HB; have HB := n0_; clear n0_; (try clear hb); (try clear hb2); (try clear hk); (try clear hi)) | ((with_reducible refine gate_callee (f := 29) rfl ?_); refine goesL_ (some 27) rfl rfl Try.func29 (by kernel_rfl) rfl #[.int .u32 t226, .int .i64 (wrap64 ((Int.tmod (wrap64 ((Int.tmod a0 1125899906842624) + 1125899906842624)) 1125899906842624) + (wrap64 (a1))))] rfl (by (try simp only [List.map_toArray, List.map_cons, List.map_nil]); first | done | rfl | (simp only [List.length_drop, List.length_take]; rfl)) ?_; (with_reducible refine (units_FromStamp.calls t226 (wrap64 ((Int.tmod (wrap64 ((Int.tmod a0 1125899906842624) + 1125899906842624)) 1125899906842624) + (wrap64 (a1)))) t227 _ A9.out).mono ?_); rintro e w17 ⟨rfl, hb⟩; refine ⟨_, rfl, ?_⟩; have n0_ := Aside0.mk (below_step (by repeat (first | (with_reducible first | exact HB.out | apply below_alloc | apply pw_below_drewN | apply below_drew1) | exact HB.out)) hb); clear HB; have HB := n0_; clear n0_; (try clear hb); (try clear hb2); (try clear hk); (try clear hi)))
            go_ret
            exact ⟨by first | rfl | (simp [errW_none, errW_some] <;> rfl) | (simp [*, errW_none, errW_some] <;> rfl), by repeat (first | (with_reducible first | exact HB.out | apply below_alloc | apply pw_below_drewN | apply below_drew1) | exact HB.out)⟩
        · rw [if_neg c10] at H
          have c10b0 : decide (t227 ≤ (Int.tmod (wrap64 ((Int.tmod a0 1125899906842624) + 1125899906842624)) 1125899906842624)) = false := decide_eq_false c10
          clear c10
          obtain rfl := Option.some.inj H
          go_wp2_with (first | ((with_reducible refine gate_callee (f := 27) rfl ?_); refine goesL_ (some 25) rfl rfl Try.func27 (by kernel_rfl) rfl #[.int .i64 (Int.tmod (wrap64 ((Int.tmod a0 1125899906842624) + 1125899906842624)) 1125899906842624)] rfl (by (try simp only [List.map_toArray, List.map_cons, List.map_nil]); first | done | rfl | (simp only [List.length_drop, List.length_take]; rfl)) ?_; (with_reducible refine (units_Stamp.calls (Int.tmod (wrap64 ((Int.tmod a0 1125899906842624) + 1125899906842624)) 1125899906842624) t226 _ A8.out).mono ?_); rintro e w18 ⟨rfl, hb⟩; refine ⟨_, rfl, ?_⟩; have n0_ := Aside0.mk (below_step (by repeat (first | (with_reducible first | exact HB.out | apply below_alloc | apply pw_below_drewN | apply below_drew1) | exact HB.out)) hb); clear HB; have HB := n0_; clear n0_; (try clear hb); (try clear hb2); (try clear hk); (try clear hi)) | ((with_reducible refine gate_callee (f := 29) rfl ?_); refine goesL_ (some 27) rfl rfl Try.func29 (by kernel_rfl) rfl #[.int .u32 t226, .int .i64 (wrap64 ((Int.tmod (wrap64 ((Int.tmod a0 1125899906842624) + 1125899906842624)) 1125899906842624) + (wrap64 (a1))))] rfl (by (try simp only [List.map_toArray, List.map_cons, List.map_nil]); first | done | rfl | (simp only [List.length_drop, List.length_take]; rfl)) ?_; (with_reducible refine (units_FromStamp.calls t226 (wrap64 ((Int.tmod (wrap64 ((Int.tmod a0 1125899906842624) + 1125899906842624)) 1125899906842624) + (wrap64 (a1)))) t227 _ A9.out).mono ?_); rintro e w19 ⟨rfl, hb⟩; refine ⟨_, rfl, ?_⟩; have n0_ := Aside0.mk (below_step (by repeat (first | (with_reducible first | exact HB.out | apply below_alloc | apply pw_below_drewN | apply below_drew1) | exact HB.out)) hb); clear HB; have HB := n0_; clear n0_; (try clear hb); (try clear hb2); (try clear hk); (try clear hi)))
          go_ret
          exact ⟨by first | rfl | (simp [errW_none, errW_some] <;> rfl) | (simp [*, errW_none, errW_some] <;> rfl), by repeat (first | (with_reducible first | exact HB.out | apply below_alloc | apply pw_below_drewN | apply below_drew1) | exact HB.out)⟩

/-- THE ONE PURE STATEMENT of flywheellaw04_UnitsTimes: yours. -/
def flywheellaw04_UnitsTimes.Pure : Prop := ∀ (a0 : Int) (a1 : Int), (Lit.int .i64 a0).wf = true → (Lit.int .i32 a1).wf = true → ∃ k, flywheellaw04_UnitsTimes.f k a0 a1 = some true
theorem flywheellaw04_UnitsTimes.walk (P : flywheellaw04_UnitsTimes.Pure) (a0 : Int) (a1 : Int) (w : World) (w0 : (Lit.int .i64 a0).wf = true) (w1 : (Lit.int .i32 a1).wf = true) :
    Calls Try.prog 13 #[.int .i64 a0, .int .i32 a1] w fun e w' => e = .returned (.bool true) ∧ Below w.heap.size w w' := by
  obtain ⟨k, h⟩ := P a0 a1 w0 w1
  refine (flywheellaw04_UnitsTimes.calls k a0 a1 true w h).mono ?_
  rintro e w' ⟨rfl, hd⟩
  exact ⟨rfl, hd⟩

end Go.Proofs.Ytipdmihaidpnpaa.P

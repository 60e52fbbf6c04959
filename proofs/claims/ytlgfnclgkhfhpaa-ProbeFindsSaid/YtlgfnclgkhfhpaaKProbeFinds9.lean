-- PUT TOGETHER by a program of this session: of the claim's texts, what is used
import Derived.Test.YtlgfnclgkhfhpaaKProbeFinds7
import Derived.Test.YtlgfnclgkhfhpaaKProbeFinds8
section
namespace Go.Proofs.Ytlgfnclgkhfhpaa.P
open Go.RowKit Go.Proofs.YtlgfnclgkhfhpaaW.PrintWords Go.Proofs.YtlgfnclgkhfhpaaW.PrintLast Go.Proofs.YtlgfnclgkhfhpaaW.PrintMore
attribute [local go_sem] max2_int min2_int max_two min_two max_three min_three max_four min_four   -- for this text's walks alone
set_option linter.unusedVariables false
set_option linter.unusedSimpArgs false
def probe_Probe_Sent.f (s0_0 : Int) (s0_1 : Int) (s0_2 : Int) (s0_3 : Int) (s0_4 : Int) (s0_5 : Int) (s0_6 : Int) (s0_7 : Int) (s0_8 : Int) (s0_9 : Int) (s0_10 : Int) (s0_11 : Int) (s0_12 : Int) (s0_13 : Int) (s0_14 : Int) (a1 : Int) (a2 : Int) (a3 : Int) : Option (Bool × Int × Int × Int × Int × Int × Int × Int × Int × Int × Int × Int × Int × Int × Int × Int) := if a1 = 0 then some (false, s0_0, s0_1, s0_2, s0_3, s0_4, s0_5, s0_6, s0_7, s0_8, s0_9, s0_10, s0_11, s0_12, s0_13, s0_14) else (if a1 = s0_1 then ((probe_good.f a2 a3).bind fun t => (if t = true then (if s0_3 = 1 ∧ s0_1 = 1 then (some (wrap64 (s0_6 - a2))).bind fun l => some (true, s0_0, (if l ≤ 0 then 0 else s0_1), s0_2, s0_3, s0_4, s0_5, l, s0_7, s0_8, s0_9, s0_10, s0_11, s0_12, s0_13, s0_14) else none) else some (false, s0_0, s0_1, s0_2, s0_3, s0_4, s0_5, s0_6, s0_7, s0_8, s0_9, s0_10, s0_11, s0_12, s0_13, s0_14))) else some (false, s0_0, s0_1, s0_2, s0_3, s0_4, s0_5, s0_6, s0_7, s0_8, s0_9, s0_10, s0_11, s0_12, s0_13, s0_14))
set_option maxHeartbeats 16000000 in
set_option maxRecDepth 100000 in
theorem probe_Probe_Sent.calls (g : Nat) (s0_0 : Int) (s0_1 : Int) (s0_2 : Int) (s0_3 : Int) (s0_4 : Int) (s0_5 : Int) (s0_6 : Int) (s0_7 : Int) (s0_8 : Int) (s0_9 : Int) (s0_10 : Int) (s0_11 : Int) (s0_12 : Int) (s0_13 : Int) (s0_14 : Int) (a1 : Int) (a2 : Int) (a3 : Int) (r1 : Bool) (r2 : Int) (r3 : Int) (r4 : Int) (r5 : Int) (r6 : Int) (r7 : Int) (r8 : Int) (r9 : Int) (r10 : Int) (r11 : Int) (r12 : Int) (r13 : Int) (r14 : Int) (r15 : Int) (r16 : Int) (w0 w : World) (hI : IsS75 w0 w g s0_0 s0_1 s0_2 s0_3 s0_4 s0_5 s0_6 s0_7 s0_8 s0_9 s0_10 s0_11 s0_12 s0_13 s0_14) (hB : Below w0.heap.size w0 w) (h : probe_Probe_Sent.f s0_0 s0_1 s0_2 s0_3 s0_4 s0_5 s0_6 s0_7 s0_8 s0_9 s0_10 s0_11 s0_12 s0_13 s0_14 a1 a2 a3 = some (r1, r2, r3, r4, r5, r6, r7, r8, r9, r10, r11, r12, r13, r14, r15, r16)) :
  Calls Try.prog 29 #[.pointer (some ⟨g, 0, none⟩), .int .i64 a1, .int .i64 a2, .int .i64 a3] w fun e w' => e = .returned (.bool r1) ∧ IsS75 w0 w' g r2 r3 r4 r5 r6 r7 r8 r9 r10 r11 r12 r13 r14 r15 r16 ∧ Below w0.heap.size w0 w' ∧ KeepT w w' := by
 have hpn35_eql : ∀ (a_ : Addr) (W_ : World), (Go.binOp .eql 35 (.pointer (some a_)) (.pointer none)).run Try.prog W_ = .ok (.bool false) W_ := fun _ _ => by kernel_rfl
 simp only [probe_Probe_Sent.f] at h
 by_cases c1 : a1 = 0
 ·rw [if_pos c1] at h
  simp only [Option.some.injEq, Prod.mk.injEq] at h
  obtain ⟨rfl, rfl, rfl, rfl, rfl, rfl, rfl, rfl, rfl, rfl, rfl, rfl, rfl, rfl, rfl, rfl⟩ := h
  have c1b : (a1 == 0) = true := beq_iff_eq.mpr c1
  clear c1
  rcases hI with ⟨e3, m, h0⟩ | ⟨e3, m, c, h0⟩
  ·have HG := Aside0.mk h0.1
   have HS : Aside0 (IsS75 w0 w g s0_0 s0_1 s0_2 s0_3 s0_4 s0_5 s0_6 s0_7 s0_8 s0_9 s0_10 s0_11 s0_12 s0_13 s0_14) := ⟨.inl ⟨e3, m, h0⟩⟩
   clear h0 e3
   have HB := Aside0.mk hB
   clear hB
   have hg_0 := (blk_cell HG.out 0).trans rfl
   have hg_1 := (blk_cell HG.out 1).trans rfl
   have hg_2 := (blk_cell HG.out 2).trans rfl
   have hg_3 := (blk_cell HG.out 3).trans rfl
   have hfg_0 := blk_frozen HG.out 0
   have hfg_1 := blk_frozen HG.out 1
   have hfg_2 := blk_frozen HG.out 2
   have hfg_3 := blk_frozen HG.out 3
   go_enter Try.func29, Try.ntmps29
   go_wp2
   go_ret
   exact ⟨rfl, by repeat (first | exact HS.out | apply IsS75.alloc | apply IsS75.drewN | apply IsS75.drew), by repeat (first | exact HB.out | apply below_alloc | apply pw_below_drewN | apply below_drew1), by repeat (first | exact KeepT.refl _ | refine KeepT.below ?_ (below_drew (Below.refl _ _)) | refine KeepT.below ?_ (pw_below_drewN (Below.refl _ _) _))⟩
  ·have HG := Aside0.mk h0.1
   have HS : Aside0 (IsS75 w0 w g s0_0 s0_1 s0_2 s0_3 s0_4 s0_5 s0_6 s0_7 s0_8 s0_9 s0_10 s0_11 s0_12 s0_13 s0_14) := ⟨.inr ⟨e3, m, c, h0⟩⟩
   clear h0 e3
   have HB := Aside0.mk hB
   clear hB
   have hg_0 := (blk_cell HG.out 0).trans rfl
   have hg_1 := (blk_cell HG.out 1).trans rfl
   have hg_2 := (blk_cell HG.out 2).trans rfl
   have hg_3 := (blk_cell HG.out 3).trans rfl
   have hfg_0 := blk_frozen HG.out 0
   have hfg_1 := blk_frozen HG.out 1
   have hfg_2 := blk_frozen HG.out 2
   have hfg_3 := blk_frozen HG.out 3
   go_enter Try.func29, Try.ntmps29
   go_wp2
   go_ret
   exact ⟨rfl, by repeat (first | exact HS.out | apply IsS75.alloc | apply IsS75.drewN | apply IsS75.drew), by repeat (first | exact HB.out | apply below_alloc | apply pw_below_drewN | apply below_drew1), by repeat (first | exact KeepT.refl _ | refine KeepT.below ?_ (below_drew (Below.refl _ _)) | refine KeepT.below ?_ (pw_below_drewN (Below.refl _ _) _))⟩
 ·rw [if_neg c1] at h
  have c1b : (a1 == 0) = false := beq_eq_false_iff_ne.mpr c1
  clear c1
  by_cases c2 : a1 = s0_1
  rotate_left
  ·rw [if_neg c2] at h
   simp only [Option.some.injEq, Prod.mk.injEq] at h
   obtain ⟨rfl, rfl, rfl, rfl, rfl, rfl, rfl, rfl, rfl, rfl, rfl, rfl, rfl, rfl, rfl, rfl⟩ := h
   have c2b : (a1 != s0_1) = true := bne_iff_ne.mpr c2
   clear c2
   rcases hI with ⟨e3, m, h0⟩ | ⟨e3, m, c, h0⟩
   ·have HG := Aside0.mk h0.1
    have HS : Aside0 (IsS75 w0 w g s0_0 s0_1 s0_2 s0_3 s0_4 s0_5 s0_6 s0_7 s0_8 s0_9 s0_10 s0_11 s0_12 s0_13 s0_14) := ⟨.inl ⟨e3, m, h0⟩⟩
    clear h0 e3
    have HB := Aside0.mk hB
    clear hB
    have hg_0 := (blk_cell HG.out 0).trans rfl
    have hg_1 := (blk_cell HG.out 1).trans rfl
    have hg_2 := (blk_cell HG.out 2).trans rfl
    have hg_3 := (blk_cell HG.out 3).trans rfl
    have hfg_0 := blk_frozen HG.out 0
    have hfg_1 := blk_frozen HG.out 1
    have hfg_2 := blk_frozen HG.out 2
    have hfg_3 := blk_frozen HG.out 3
    go_enter Try.func29, Try.ntmps29
    go_wp2
    go_ret
    exact ⟨rfl, by repeat (first | exact HS.out | apply IsS75.alloc | apply IsS75.drewN | apply IsS75.drew), by repeat (first | exact HB.out | apply below_alloc | apply pw_below_drewN | apply below_drew1), by repeat (first | exact KeepT.refl _ | refine KeepT.below ?_ (below_drew (Below.refl _ _)) | refine KeepT.below ?_ (pw_below_drewN (Below.refl _ _) _))⟩
   ·have HG := Aside0.mk h0.1
    have HS : Aside0 (IsS75 w0 w g s0_0 s0_1 s0_2 s0_3 s0_4 s0_5 s0_6 s0_7 s0_8 s0_9 s0_10 s0_11 s0_12 s0_13 s0_14) := ⟨.inr ⟨e3, m, c, h0⟩⟩
    clear h0 e3
    have HB := Aside0.mk hB
    clear hB
    have hg_0 := (blk_cell HG.out 0).trans rfl
    have hg_1 := (blk_cell HG.out 1).trans rfl
    have hg_2 := (blk_cell HG.out 2).trans rfl
    have hg_3 := (blk_cell HG.out 3).trans rfl
    have hfg_0 := blk_frozen HG.out 0
    have hfg_1 := blk_frozen HG.out 1
    have hfg_2 := blk_frozen HG.out 2
    have hfg_3 := blk_frozen HG.out 3
    go_enter Try.func29, Try.ntmps29
    go_wp2
    go_ret
    exact ⟨rfl, by repeat (first | exact HS.out | apply IsS75.alloc | apply IsS75.drewN | apply IsS75.drew), by repeat (first | exact HB.out | apply below_alloc | apply pw_below_drewN | apply below_drew1), by repeat (first | exact KeepT.refl _ | refine KeepT.below ?_ (below_drew (Below.refl _ _)) | refine KeepT.below ?_ (pw_below_drewN (Below.refl _ _) _))⟩
  rw [if_pos c2] at h
  have c2b : (a1 != s0_1) = false := bne_eq_false_iff_eq.mpr c2
  replace h := Option.bind_eq_some_iff.mp h
  obtain ⟨t, A1_, h⟩ := h
  have A1 := Aside0.mk A1_
  clear A1_
  cases t with
  | false =>
   rw [if_neg (by simp)] at h
   simp only [Option.some.injEq, Prod.mk.injEq] at h
   obtain ⟨rfl, rfl, rfl, rfl, rfl, rfl, rfl, rfl, rfl, rfl, rfl, rfl, rfl, rfl, rfl, rfl⟩ := h
   clear c2
   rcases hI with ⟨e3, m, h0⟩ | ⟨e3, m, c, h0⟩
   ·have HG := Aside0.mk h0.1
    have HS : Aside0 (IsS75 w0 w g s0_0 s0_1 s0_2 s0_3 s0_4 s0_5 s0_6 s0_7 s0_8 s0_9 s0_10 s0_11 s0_12 s0_13 s0_14) := ⟨.inl ⟨e3, m, h0⟩⟩
    clear h0 e3
    have HB := Aside0.mk hB
    clear hB
    have hg_0 := (blk_cell HG.out 0).trans rfl
    have hg_1 := (blk_cell HG.out 1).trans rfl
    have hg_2 := (blk_cell HG.out 2).trans rfl
    have hg_3 := (blk_cell HG.out 3).trans rfl
    have hfg_0 := blk_frozen HG.out 0
    have hfg_1 := blk_frozen HG.out 1
    have hfg_2 := blk_frozen HG.out 2
    have hfg_3 := blk_frozen HG.out 3
    go_enter Try.func29, Try.ntmps29
    go_wp2_with (first | (go_at_call 44; (with_reducible refine (probe_good.calls a2 a3 _ _ A1.out).mono ?_); rintro e w' ⟨rfl, hd⟩; obtain ⟨n, rfl⟩ := hd.out))
    go_ret
    exact ⟨rfl, by repeat (first | exact HS.out | apply IsS75.alloc | apply IsS75.drewN | apply IsS75.drew), by repeat (first | exact HB.out | apply below_alloc | apply pw_below_drewN | apply below_drew1), by repeat (first | exact KeepT.refl _ | refine KeepT.below ?_ (below_drew (Below.refl _ _)) | refine KeepT.below ?_ (pw_below_drewN (Below.refl _ _) _))⟩
   ·have HG := Aside0.mk h0.1
    have HS : Aside0 (IsS75 w0 w g s0_0 s0_1 s0_2 s0_3 s0_4 s0_5 s0_6 s0_7 s0_8 s0_9 s0_10 s0_11 s0_12 s0_13 s0_14) := ⟨.inr ⟨e3, m, c, h0⟩⟩
    clear h0 e3
    have HB := Aside0.mk hB
    clear hB
    have hg_0 := (blk_cell HG.out 0).trans rfl
    have hg_1 := (blk_cell HG.out 1).trans rfl
    have hg_2 := (blk_cell HG.out 2).trans rfl
    have hg_3 := (blk_cell HG.out 3).trans rfl
    have hfg_0 := blk_frozen HG.out 0
    have hfg_1 := blk_frozen HG.out 1
    have hfg_2 := blk_frozen HG.out 2
    have hfg_3 := blk_frozen HG.out 3
    go_enter Try.func29, Try.ntmps29
    go_wp2_with (first | (go_at_call 44; (with_reducible refine (probe_good.calls a2 a3 _ _ A1.out).mono ?_); rintro e w' ⟨rfl, hd⟩; obtain ⟨n, rfl⟩ := hd.out))
    go_ret
    exact ⟨rfl, by repeat (first | exact HS.out | apply IsS75.alloc | apply IsS75.drewN | apply IsS75.drew), by repeat (first | exact HB.out | apply below_alloc | apply pw_below_drewN | apply below_drew1), by repeat (first | exact KeepT.refl _ | refine KeepT.below ?_ (below_drew (Below.refl _ _)) | refine KeepT.below ?_ (pw_below_drewN (Below.refl _ _) _))⟩
  | true =>
   rw [if_pos rfl] at h
   by_cases c3 : s0_3 = 1 ∧ s0_1 = 1
   rotate_left
   ·rw [if_neg c3] at h; cases h
   rw [if_pos c3] at h
   obtain ⟨d3, d1⟩ := c3
   subst d3 d1 c2
   replace h := Option.bind_eq_some_iff.mp h
   obtain ⟨l, hl_, h⟩ := h
   have hl := Option.some.inj hl_
   clear hl_
   rcases hI with ⟨e3, m, h0⟩ | ⟨e3, m, c, h0⟩
   ·omega
   have HP := Aside0.mk (show PF w0 w w g m c s0_0 1 s0_2 #[.int .i64 s0_4, .int .i64 s0_5, .int .i64 s0_6, .int .i64 s0_7, .int .i64 s0_8, .int .i64 s0_9, .int .i64 s0_10, .int .i64 s0_11, .int .i64 s0_12, .int .i64 s0_13, .int .i64 s0_14] from ⟨h0, hB, KeepT.refl w⟩)
   clear h0 hB e3
   have hg_0 := (blk_cell HP.out.1.1 0).trans rfl
   have hg_1 := (blk_cell HP.out.1.1 1).trans rfl
   have hg_2 := (blk_cell HP.out.1.1 2).trans rfl
   have hg_3 := (blk_cell HP.out.1.1 3).trans rfl
   have hfg_0 := blk_frozen HP.out.1.1 0
   have hfg_1 := blk_frozen HP.out.1.1 1
   have hfg_2 := blk_frozen HP.out.1.1 2
   have hfg_3 := blk_frozen HP.out.1.1 3
   by_cases c9 : l ≤ 0
   ·rw [if_pos c9] at h
    simp only [Option.some.injEq, Prod.mk.injEq] at h
    obtain ⟨rfl, rfl, rfl, rfl, rfl, rfl, rfl, rfl, rfl, rfl, rfl, rfl, rfl, rfl, rfl, rfl⟩ := h
    have c9b : decide (l ≤ 0) = true := decide_eq_true c9
    go_enter Try.func29, Try.ntmps29
    go_wp2_with (first | (go_at_call 44; (with_reducible refine (probe_good.calls a2 a3 _ _ A1.out).mono ?_); rintro e w5 ⟨rfl, hd⟩; have hb5 : Below w.heap.size w w5 := (by obtain ⟨n, rfl⟩ := hd.out; exact pw_below_drewN (Below.refl _ _) n); have n0_ := Aside0.mk (PF.below HP.out hb5); clear HP hd hb5; have HP := n0_; clear n0_; clear hg_0 hg_1 hg_2 hg_3 hfg_0 hfg_1 hfg_2 hfg_3; have hg_0 := (blk_cell HP.out.1.1 0).trans rfl; have hg_1 := (blk_cell HP.out.1.1 1).trans rfl; have hg_2 := (blk_cell HP.out.1.1 2).trans rfl; have hg_3 := (blk_cell HP.out.1.1 3).trans rfl; have hfg_0 := blk_frozen HP.out.1.1 0; have hfg_1 := blk_frozen HP.out.1.1 1; have hfg_2 := blk_frozen HP.out.1.1 2; have hfg_3 := blk_frozen HP.out.1.1 3; have hc_0 := (blk_cell HP.out.1.2.2.2.2.1 0).trans rfl; have hc_1 := (blk_cell HP.out.1.2.2.2.2.1 1).trans rfl; have hc_2 := (blk_cell HP.out.1.2.2.2.2.1 2).trans rfl; have hc_3 := (blk_cell HP.out.1.2.2.2.2.1 3).trans rfl; have hc_4 := (blk_cell HP.out.1.2.2.2.2.1 4).trans rfl; have hc_5 := (blk_cell HP.out.1.2.2.2.2.1 5).trans rfl; have hc_6 := (blk_cell HP.out.1.2.2.2.2.1 6).trans rfl; have hc_7 := (blk_cell HP.out.1.2.2.2.2.1 7).trans rfl; have hc_8 := (blk_cell HP.out.1.2.2.2.2.1 8).trans rfl; have hc_9 := (blk_cell HP.out.1.2.2.2.2.1 9).trans rfl; have hc_10 := (blk_cell HP.out.1.2.2.2.2.1 10).trans rfl; have hfc_0 := blk_frozen HP.out.1.2.2.2.2.1 0; have hfc_1 := blk_frozen HP.out.1.2.2.2.2.1 1; have hfc_2 := blk_frozen HP.out.1.2.2.2.2.1 2; have hfc_3 := blk_frozen HP.out.1.2.2.2.2.1 3; have hfc_4 := blk_frozen HP.out.1.2.2.2.2.1 4; have hfc_5 := blk_frozen HP.out.1.2.2.2.2.1 5; have hfc_6 := blk_frozen HP.out.1.2.2.2.2.1 6; have hfc_7 := blk_frozen HP.out.1.2.2.2.2.1 7; have hfc_8 := blk_frozen HP.out.1.2.2.2.2.1 8; have hfc_9 := blk_frozen HP.out.1.2.2.2.2.1 9; have hfc_10 := blk_frozen HP.out.1.2.2.2.2.1 10; obtain ⟨em, cl, hm⟩ := HP.out.1.2.2.1; have hlk := look_f (k := 1) hm rfl; clear hm; have hx1 := blk_frozen (PF.setc HP.out 2 (.int .i64 l)).1.1 2; have hx2 := (blk_cell (PF.setc HP.out 2 (.int .i64 l)).1.1 2).trans rfl))
    have hF : PF w0 w _ g m c s0_0 0 s0_2 #[.int .i64 s0_4, .int .i64 s0_5, .int .i64 l, .int .i64 s0_7, .int .i64 s0_8, .int .i64 s0_9, .int .i64 s0_10, .int .i64 s0_11, .int .i64 s0_12, .int .i64 s0_13, .int .i64 s0_14] := (HP.out.setc 2 (.int .i64 l)).setg1 0
    go_ret
    exact ⟨rfl, .inr ⟨rfl, m, c, hF.1⟩, hF.2.1, hF.2.2⟩
   ·rw [if_neg c9] at h
    simp only [Option.some.injEq, Prod.mk.injEq] at h
    obtain ⟨rfl, rfl, rfl, rfl, rfl, rfl, rfl, rfl, rfl, rfl, rfl, rfl, rfl, rfl, rfl, rfl⟩ := h
    have c9b : decide (l ≤ 0) = false := decide_eq_false c9
    go_enter Try.func29, Try.ntmps29
    go_wp2_with (first | (go_at_call 44; (with_reducible refine (probe_good.calls a2 a3 _ _ A1.out).mono ?_); rintro e w5 ⟨rfl, hd⟩; have hb5 : Below w.heap.size w w5 := (by obtain ⟨n, rfl⟩ := hd.out; exact pw_below_drewN (Below.refl _ _) n); have n0_ := Aside0.mk (PF.below HP.out hb5); clear HP hd hb5; have HP := n0_; clear n0_; clear hg_0 hg_1 hg_2 hg_3 hfg_0 hfg_1 hfg_2 hfg_3; have hg_0 := (blk_cell HP.out.1.1 0).trans rfl; have hg_1 := (blk_cell HP.out.1.1 1).trans rfl; have hg_2 := (blk_cell HP.out.1.1 2).trans rfl; have hg_3 := (blk_cell HP.out.1.1 3).trans rfl; have hfg_0 := blk_frozen HP.out.1.1 0; have hfg_1 := blk_frozen HP.out.1.1 1; have hfg_2 := blk_frozen HP.out.1.1 2; have hfg_3 := blk_frozen HP.out.1.1 3; have hc_0 := (blk_cell HP.out.1.2.2.2.2.1 0).trans rfl; have hc_1 := (blk_cell HP.out.1.2.2.2.2.1 1).trans rfl; have hc_2 := (blk_cell HP.out.1.2.2.2.2.1 2).trans rfl; have hc_3 := (blk_cell HP.out.1.2.2.2.2.1 3).trans rfl; have hc_4 := (blk_cell HP.out.1.2.2.2.2.1 4).trans rfl; have hc_5 := (blk_cell HP.out.1.2.2.2.2.1 5).trans rfl; have hc_6 := (blk_cell HP.out.1.2.2.2.2.1 6).trans rfl; have hc_7 := (blk_cell HP.out.1.2.2.2.2.1 7).trans rfl; have hc_8 := (blk_cell HP.out.1.2.2.2.2.1 8).trans rfl; have hc_9 := (blk_cell HP.out.1.2.2.2.2.1 9).trans rfl; have hc_10 := (blk_cell HP.out.1.2.2.2.2.1 10).trans rfl; have hfc_0 := blk_frozen HP.out.1.2.2.2.2.1 0; have hfc_1 := blk_frozen HP.out.1.2.2.2.2.1 1; have hfc_2 := blk_frozen HP.out.1.2.2.2.2.1 2; have hfc_3 := blk_frozen HP.out.1.2.2.2.2.1 3; have hfc_4 := blk_frozen HP.out.1.2.2.2.2.1 4; have hfc_5 := blk_frozen HP.out.1.2.2.2.2.1 5; have hfc_6 := blk_frozen HP.out.1.2.2.2.2.1 6; have hfc_7 := blk_frozen HP.out.1.2.2.2.2.1 7; have hfc_8 := blk_frozen HP.out.1.2.2.2.2.1 8; have hfc_9 := blk_frozen HP.out.1.2.2.2.2.1 9; have hfc_10 := blk_frozen HP.out.1.2.2.2.2.1 10; obtain ⟨em, cl, hm⟩ := HP.out.1.2.2.1; have hlk := look_f (k := 1) hm rfl; clear hm; have hx1 := blk_frozen (PF.setc HP.out 2 (.int .i64 l)).1.1 2; have hx2 := (blk_cell (PF.setc HP.out 2 (.int .i64 l)).1.1 2).trans rfl))
    have hF : PF w0 w _ g m c s0_0 1 s0_2 #[.int .i64 s0_4, .int .i64 s0_5, .int .i64 l, .int .i64 s0_7, .int .i64 s0_8, .int .i64 s0_9, .int .i64 s0_10, .int .i64 s0_11, .int .i64 s0_12, .int .i64 s0_13, .int .i64 s0_14] := HP.out.setc 2 (.int .i64 l)
    go_ret
    exact ⟨rfl, .inr ⟨rfl, m, c, hF.1⟩, hF.2.1, hF.2.2⟩
def flywheellaw26_wakes.f  : Option (Bool) := (probe_New.f).bind fun bt121 => ((probe_Probe_Start.f bt121.1 bt121.2.1 bt121.2.2.1 bt121.2.2.2.1 bt121.2.2.2.2.1 bt121.2.2.2.2.2.1 bt121.2.2.2.2.2.2.1 bt121.2.2.2.2.2.2.2.1 bt121.2.2.2.2.2.2.2.2.1 bt121.2.2.2.2.2.2.2.2.2.1 bt121.2.2.2.2.2.2.2.2.2.2.1 bt121.2.2.2.2.2.2.2.2.2.2.2.1 bt121.2.2.2.2.2.2.2.2.2.2.2.2.1 bt121.2.2.2.2.2.2.2.2.2.2.2.2.2.1 bt121.2.2.2.2.2.2.2.2.2.2.2.2.2.2 8000000).bind fun bt137 => (if bt137.1 = 1 then ((probe_Probe_Open.f bt137.2.1 bt137.2.2.1 bt137.2.2.2.1 bt137.2.2.2.2.1 bt137.2.2.2.2.2.1 bt137.2.2.2.2.2.2.1 bt137.2.2.2.2.2.2.2.1 bt137.2.2.2.2.2.2.2.2.1 bt137.2.2.2.2.2.2.2.2.2.1 bt137.2.2.2.2.2.2.2.2.2.2.1 bt137.2.2.2.2.2.2.2.2.2.2.2.1 bt137.2.2.2.2.2.2.2.2.2.2.2.2.1 bt137.2.2.2.2.2.2.2.2.2.2.2.2.2.1 bt137.2.2.2.2.2.2.2.2.2.2.2.2.2.2.1 bt137.2.2.2.2.2.2.2.2.2.2.2.2.2.2.2).bind fun bt153 => (if bt153.1 = 1 then (if bt153.2.1 = 8000000 then (if bt153.2.2.1 = 15000 then ((probe_Probe_Sent.f bt153.2.2.2.1 bt153.2.2.2.2.1 bt153.2.2.2.2.2.1 bt153.2.2.2.2.2.2.1 bt153.2.2.2.2.2.2.2.1 bt153.2.2.2.2.2.2.2.2.1 bt153.2.2.2.2.2.2.2.2.2.1 bt153.2.2.2.2.2.2.2.2.2.2.1 bt153.2.2.2.2.2.2.2.2.2.2.2.1 bt153.2.2.2.2.2.2.2.2.2.2.2.2.1 bt153.2.2.2.2.2.2.2.2.2.2.2.2.2.1 bt153.2.2.2.2.2.2.2.2.2.2.2.2.2.2.1 bt153.2.2.2.2.2.2.2.2.2.2.2.2.2.2.2.1 bt153.2.2.2.2.2.2.2.2.2.2.2.2.2.2.2.2.1 bt153.2.2.2.2.2.2.2.2.2.2.2.2.2.2.2.2.2 1 1500 0).bind fun bt171 => (if bt171.1 = true then ((probe_Probe_Start.f bt171.2.1 bt171.2.2.1 bt171.2.2.2.1 bt171.2.2.2.2.1 bt171.2.2.2.2.2.1 bt171.2.2.2.2.2.2.1 bt171.2.2.2.2.2.2.2.1 bt171.2.2.2.2.2.2.2.2.1 bt171.2.2.2.2.2.2.2.2.2.1 bt171.2.2.2.2.2.2.2.2.2.2.1 bt171.2.2.2.2.2.2.2.2.2.2.2.1 bt171.2.2.2.2.2.2.2.2.2.2.2.2.1 bt171.2.2.2.2.2.2.2.2.2.2.2.2.2.1 bt171.2.2.2.2.2.2.2.2.2.2.2.2.2.2.1 bt171.2.2.2.2.2.2.2.2.2.2.2.2.2.2.2 1).bind fun bt187 => (some (bt187.1 == 0))) else (some false))) else (some false)) else (some false)) else (some false))) else (some false)))
set_option maxHeartbeats 8000000 in
set_option maxRecDepth 100000 in
theorem flywheellaw26_wakes.calls  (r : Bool) (w : World) (h : flywheellaw26_wakes.f  = some r) :
  Calls Try.prog 26 #[] w fun e w' => e = .returned (.bool r) ∧ Below w.heap.size w w' := by
 have hpn35_eql : ∀ (a_ : Addr) (W_ : World), (Go.binOp .eql 35 (.pointer (some a_)) (.pointer none)).run Try.prog W_ = .ok (.bool false) W_ := fun _ _ => by kernel_rfl
 have hnn35_eql : ∀ (W_ : World), (Go.binOp .eql 35 (.pointer none) (.pointer none)).run Try.prog W_ = .ok (.bool true) W_ := fun _ => by kernel_rfl
 have HB := Aside0.mk (Below.refl w.heap.size w)
 have H : ((probe_New.f).bind fun bt121 => ((probe_Probe_Start.f bt121.1 bt121.2.1 bt121.2.2.1 bt121.2.2.2.1 bt121.2.2.2.2.1 bt121.2.2.2.2.2.1 bt121.2.2.2.2.2.2.1 bt121.2.2.2.2.2.2.2.1 bt121.2.2.2.2.2.2.2.2.1 bt121.2.2.2.2.2.2.2.2.2.1 bt121.2.2.2.2.2.2.2.2.2.2.1 bt121.2.2.2.2.2.2.2.2.2.2.2.1 bt121.2.2.2.2.2.2.2.2.2.2.2.2.1 bt121.2.2.2.2.2.2.2.2.2.2.2.2.2.1 bt121.2.2.2.2.2.2.2.2.2.2.2.2.2.2 8000000).bind fun bt137 => (if bt137.1 = 1 then ((probe_Probe_Open.f bt137.2.1 bt137.2.2.1 bt137.2.2.2.1 bt137.2.2.2.2.1 bt137.2.2.2.2.2.1 bt137.2.2.2.2.2.2.1 bt137.2.2.2.2.2.2.2.1 bt137.2.2.2.2.2.2.2.2.1 bt137.2.2.2.2.2.2.2.2.2.1 bt137.2.2.2.2.2.2.2.2.2.2.1 bt137.2.2.2.2.2.2.2.2.2.2.2.1 bt137.2.2.2.2.2.2.2.2.2.2.2.2.1 bt137.2.2.2.2.2.2.2.2.2.2.2.2.2.1 bt137.2.2.2.2.2.2.2.2.2.2.2.2.2.2.1 bt137.2.2.2.2.2.2.2.2.2.2.2.2.2.2.2).bind fun bt153 => (if bt153.1 = 1 then (if bt153.2.1 = 8000000 then (if bt153.2.2.1 = 15000 then ((probe_Probe_Sent.f bt153.2.2.2.1 bt153.2.2.2.2.1 bt153.2.2.2.2.2.1 bt153.2.2.2.2.2.2.1 bt153.2.2.2.2.2.2.2.1 bt153.2.2.2.2.2.2.2.2.1 bt153.2.2.2.2.2.2.2.2.2.1 bt153.2.2.2.2.2.2.2.2.2.2.1 bt153.2.2.2.2.2.2.2.2.2.2.2.1 bt153.2.2.2.2.2.2.2.2.2.2.2.2.1 bt153.2.2.2.2.2.2.2.2.2.2.2.2.2.1 bt153.2.2.2.2.2.2.2.2.2.2.2.2.2.2.1 bt153.2.2.2.2.2.2.2.2.2.2.2.2.2.2.2.1 bt153.2.2.2.2.2.2.2.2.2.2.2.2.2.2.2.2.1 bt153.2.2.2.2.2.2.2.2.2.2.2.2.2.2.2.2.2 1 1500 0).bind fun bt171 => (if bt171.1 = true then ((probe_Probe_Start.f bt171.2.1 bt171.2.2.1 bt171.2.2.2.1 bt171.2.2.2.2.1 bt171.2.2.2.2.2.1 bt171.2.2.2.2.2.2.1 bt171.2.2.2.2.2.2.2.1 bt171.2.2.2.2.2.2.2.2.1 bt171.2.2.2.2.2.2.2.2.2.1 bt171.2.2.2.2.2.2.2.2.2.2.1 bt171.2.2.2.2.2.2.2.2.2.2.2.1 bt171.2.2.2.2.2.2.2.2.2.2.2.2.1 bt171.2.2.2.2.2.2.2.2.2.2.2.2.2.1 bt171.2.2.2.2.2.2.2.2.2.2.2.2.2.2.1 bt171.2.2.2.2.2.2.2.2.2.2.2.2.2.2.2 1).bind fun bt187 => (some (bt187.1 == 0))) else (some false))) else (some false)) else (some false)) else (some false))) else (some false)))) = some r := h
 clear h
 replace H := Option.bind_eq_some_iff.mp H
 obtain ⟨⟨t121, t122, t123, t124, t125, t126, t127, t128, t129, t130, t131, t132, t133, t134, t135⟩, A10, H⟩ := H
 replace H : ((probe_Probe_Start.f t121 t122 t123 t124 t125 t126 t127 t128 t129 t130 t131 t132 t133 t134 t135 8000000).bind fun bt137 => (if bt137.1 = 1 then ((probe_Probe_Open.f bt137.2.1 bt137.2.2.1 bt137.2.2.2.1 bt137.2.2.2.2.1 bt137.2.2.2.2.2.1 bt137.2.2.2.2.2.2.1 bt137.2.2.2.2.2.2.2.1 bt137.2.2.2.2.2.2.2.2.1 bt137.2.2.2.2.2.2.2.2.2.1 bt137.2.2.2.2.2.2.2.2.2.2.1 bt137.2.2.2.2.2.2.2.2.2.2.2.1 bt137.2.2.2.2.2.2.2.2.2.2.2.2.1 bt137.2.2.2.2.2.2.2.2.2.2.2.2.2.1 bt137.2.2.2.2.2.2.2.2.2.2.2.2.2.2.1 bt137.2.2.2.2.2.2.2.2.2.2.2.2.2.2.2).bind fun bt153 => (if bt153.1 = 1 then (if bt153.2.1 = 8000000 then (if bt153.2.2.1 = 15000 then ((probe_Probe_Sent.f bt153.2.2.2.1 bt153.2.2.2.2.1 bt153.2.2.2.2.2.1 bt153.2.2.2.2.2.2.1 bt153.2.2.2.2.2.2.2.1 bt153.2.2.2.2.2.2.2.2.1 bt153.2.2.2.2.2.2.2.2.2.1 bt153.2.2.2.2.2.2.2.2.2.2.1 bt153.2.2.2.2.2.2.2.2.2.2.2.1 bt153.2.2.2.2.2.2.2.2.2.2.2.2.1 bt153.2.2.2.2.2.2.2.2.2.2.2.2.2.1 bt153.2.2.2.2.2.2.2.2.2.2.2.2.2.2.1 bt153.2.2.2.2.2.2.2.2.2.2.2.2.2.2.2.1 bt153.2.2.2.2.2.2.2.2.2.2.2.2.2.2.2.2.1 bt153.2.2.2.2.2.2.2.2.2.2.2.2.2.2.2.2.2 1 1500 0).bind fun bt171 => (if bt171.1 = true then ((probe_Probe_Start.f bt171.2.1 bt171.2.2.1 bt171.2.2.2.1 bt171.2.2.2.2.1 bt171.2.2.2.2.2.1 bt171.2.2.2.2.2.2.1 bt171.2.2.2.2.2.2.2.1 bt171.2.2.2.2.2.2.2.2.1 bt171.2.2.2.2.2.2.2.2.2.1 bt171.2.2.2.2.2.2.2.2.2.2.1 bt171.2.2.2.2.2.2.2.2.2.2.2.1 bt171.2.2.2.2.2.2.2.2.2.2.2.2.1 bt171.2.2.2.2.2.2.2.2.2.2.2.2.2.1 bt171.2.2.2.2.2.2.2.2.2.2.2.2.2.2.1 bt171.2.2.2.2.2.2.2.2.2.2.2.2.2.2.2 1).bind fun bt187 => (some (bt187.1 == 0))) else (some false))) else (some false)) else (some false)) else (some false))) else (some false))) = some r := H
 have A1 := Aside0.mk A10
 clear A10
 replace H := Option.bind_eq_some_iff.mp H
 obtain ⟨⟨t137, t138, t139, t140, t141, t142, t143, t144, t145, t146, t147, t148, t149, t150, t151, t152⟩, A20, H⟩ := H
 replace H : (if t137 = 1 then ((probe_Probe_Open.f t138 t139 t140 t141 t142 t143 t144 t145 t146 t147 t148 t149 t150 t151 t152).bind fun bt153 => (if bt153.1 = 1 then (if bt153.2.1 = 8000000 then (if bt153.2.2.1 = 15000 then ((probe_Probe_Sent.f bt153.2.2.2.1 bt153.2.2.2.2.1 bt153.2.2.2.2.2.1 bt153.2.2.2.2.2.2.1 bt153.2.2.2.2.2.2.2.1 bt153.2.2.2.2.2.2.2.2.1 bt153.2.2.2.2.2.2.2.2.2.1 bt153.2.2.2.2.2.2.2.2.2.2.1 bt153.2.2.2.2.2.2.2.2.2.2.2.1 bt153.2.2.2.2.2.2.2.2.2.2.2.2.1 bt153.2.2.2.2.2.2.2.2.2.2.2.2.2.1 bt153.2.2.2.2.2.2.2.2.2.2.2.2.2.2.1 bt153.2.2.2.2.2.2.2.2.2.2.2.2.2.2.2.1 bt153.2.2.2.2.2.2.2.2.2.2.2.2.2.2.2.2.1 bt153.2.2.2.2.2.2.2.2.2.2.2.2.2.2.2.2.2 1 1500 0).bind fun bt171 => (if bt171.1 = true then ((probe_Probe_Start.f bt171.2.1 bt171.2.2.1 bt171.2.2.2.1 bt171.2.2.2.2.1 bt171.2.2.2.2.2.1 bt171.2.2.2.2.2.2.1 bt171.2.2.2.2.2.2.2.1 bt171.2.2.2.2.2.2.2.2.1 bt171.2.2.2.2.2.2.2.2.2.1 bt171.2.2.2.2.2.2.2.2.2.2.1 bt171.2.2.2.2.2.2.2.2.2.2.2.1 bt171.2.2.2.2.2.2.2.2.2.2.2.2.1 bt171.2.2.2.2.2.2.2.2.2.2.2.2.2.1 bt171.2.2.2.2.2.2.2.2.2.2.2.2.2.2.1 bt171.2.2.2.2.2.2.2.2.2.2.2.2.2.2.2 1).bind fun bt187 => (some (bt187.1 == 0))) else (some false))) else (some false)) else (some false)) else (some false))) else (some false)) = some r := H
 have A2 := Aside0.mk A20
 clear A20
 by_cases c3 : t137 = 1
 ·rw [if_pos c3] at H
  have c3b0 : (t137 == 1) = true := beq_iff_eq.mpr c3
  have c3b1 : (t137 != 1) = false := bne_eq_false_iff_eq.mpr c3
  clear c3
  replace H := Option.bind_eq_some_iff.mp H
  obtain ⟨⟨t153, t154, t155, t156, t157, t158, t159, t160, t161, t162, t163, t164, t165, t166, t167, t168, t169, t170⟩, A40, H⟩ := H
  replace H : (if t153 = 1 then (if t154 = 8000000 then (if t155 = 15000 then ((probe_Probe_Sent.f t156 t157 t158 t159 t160 t161 t162 t163 t164 t165 t166 t167 t168 t169 t170 1 1500 0).bind fun bt171 => (if bt171.1 = true then ((probe_Probe_Start.f bt171.2.1 bt171.2.2.1 bt171.2.2.2.1 bt171.2.2.2.2.1 bt171.2.2.2.2.2.1 bt171.2.2.2.2.2.2.1 bt171.2.2.2.2.2.2.2.1 bt171.2.2.2.2.2.2.2.2.1 bt171.2.2.2.2.2.2.2.2.2.1 bt171.2.2.2.2.2.2.2.2.2.2.1 bt171.2.2.2.2.2.2.2.2.2.2.2.1 bt171.2.2.2.2.2.2.2.2.2.2.2.2.1 bt171.2.2.2.2.2.2.2.2.2.2.2.2.2.1 bt171.2.2.2.2.2.2.2.2.2.2.2.2.2.2.1 bt171.2.2.2.2.2.2.2.2.2.2.2.2.2.2.2 1).bind fun bt187 => (some (bt187.1 == 0))) else (some false))) else (some false)) else (some false)) else (some false)) = some r := H
  have A4 := Aside0.mk A40
  clear A40
  by_cases c5 : t153 = 1
  ·rw [if_pos c5] at H
   have c5b0 : (t153 == 1) = true := beq_iff_eq.mpr c5
   have c5b1 : (t153 != 1) = false := bne_eq_false_iff_eq.mpr c5
   clear c5
   by_cases c6 : t154 = 8000000
   ·rw [if_pos c6] at H
    have c6b0 : (t154 == 8000000) = true := beq_iff_eq.mpr c6
    have c6b1 : (t154 != 8000000) = false := bne_eq_false_iff_eq.mpr c6
    clear c6
    by_cases c7 : t155 = 15000
    ·rw [if_pos c7] at H
     have c7b0 : (t155 == 15000) = true := beq_iff_eq.mpr c7
     have c7b1 : (t155 != 15000) = false := bne_eq_false_iff_eq.mpr c7
     clear c7
     replace H := Option.bind_eq_some_iff.mp H
     obtain ⟨⟨t171, t172, t173, t174, t175, t176, t177, t178, t179, t180, t181, t182, t183, t184, t185, t186⟩, A80, H⟩ := H
     replace H : (if t171 = true then ((probe_Probe_Start.f t172 t173 t174 t175 t176 t177 t178 t179 t180 t181 t182 t183 t184 t185 t186 1).bind fun bt187 => (some (bt187.1 == 0))) else (some false)) = some r := H
     have A8 := Aside0.mk A80
     clear A80
     by_cases c9 : t171 = true
     ·subst c9
      have H1 : ((probe_Probe_Start.f t172 t173 t174 t175 t176 t177 t178 t179 t180 t181 t182 t183 t184 t185 t186 1).bind fun bt187 => (some (bt187.1 == 0))) = some r := by rw [if_pos rfl] at H; exact H
      clear H
      have H := H1
      clear H1
      replace H := Option.bind_eq_some_iff.mp H
      obtain ⟨⟨t187, t188, t189, t190, t191, t192, t193, t194, t195, t196, t197, t198, t199, t200, t201, t202⟩, A100, H⟩ := H
      replace H : (some (t187 == 0)) = some r := H
      have A10 := Aside0.mk A100
      clear A100
      obtain rfl := Option.some.inj H
      go_enter Try.func26, Try.ntmps26
      go_wp2_with (first | ((with_reducible refine gate_callee (f := 21) rfl ?_); refine goesL_ (some 5) rfl rfl Try.func21 (by kernel_rfl) rfl #[] rfl (by (try simp only [List.map_toArray, List.map_cons, List.map_nil]); first | done | rfl | (simp only [List.length_drop, List.length_take]; rfl)) ?_; (with_reducible refine (probe_New.calls  t121 t122 t123 t124 t125 t126 t127 t128 t129 t130 t131 t132 t133 t134 t135 _ _ (Below.refl _ _) A1.out).mono ?_); rintro e w11 ⟨g136, rfl, hi, hb, hb2⟩; refine ⟨_, rfl, ?_⟩; have n0_ := Aside0.mk (below_step (by repeat (first | (with_reducible first | exact HB.out | apply below_alloc | apply pw_below_drewN | apply below_drew1) | exact HB.out)) hb2); have n1_ := Aside0.mk ((IsS75.rebase hi (below_size (by repeat (first | (with_reducible first | exact HB.out | apply below_alloc | apply pw_below_drewN | apply below_drew1) | exact HB.out))))); clear HB; have HB := n0_; have HI136 := n1_; clear n0_ n1_; (try clear hb); (try clear hb2); (try clear hk); (try clear hi)) | (go_at_call 23; (with_reducible refine (probe_Probe_Start.calls g136 t121 t122 t123 t124 t125 t126 t127 t128 t129 t130 t131 t132 t133 t134 t135 8000000 t137 t138 t139 t140 t141 t142 t143 t144 t145 t146 t147 t148 t149 t150 t151 t152 w _ ?side1 ?side2 A2.out).mono ?_); (case side1 => repeat (first | (with_reducible first | exact HI136.out | apply IsS75.alloc | apply IsS75.drewN | apply IsS75.drew | apply IsS75.set_0 | apply IsS75.set_1 | apply IsS75.set_2 | apply IsS75.set_3 | apply IsS75.set_4 | apply IsS75.set_5 | apply IsS75.set_6 | apply IsS75.set_7 | apply IsS75.set_8 | apply IsS75.set_9 | apply IsS75.set_10 | apply IsS75.set_11 | apply IsS75.set_12 | apply IsS75.set_13 | apply IsS75.set_14) | exact HI136.out)); (case side2 => repeat (first | (with_reducible first | exact HB.out | apply below_alloc | apply pw_below_drewN | apply below_drew1 | refine below_set ?_ (IsS75.ge HI136.out)) | exact HB.out)); rintro e w12 ⟨rfl, hi, hb, hk⟩; have n0_ := Aside0.mk (hb); have n1_ := Aside0.mk (hi); clear HB; clear HI136; have HB := n0_; have HI136 := n1_; clear n0_ n1_; (try clear hb); (try clear hb2); (try clear hk); (try clear hi)) | ((with_reducible refine gate_callee (f := 24) rfl ?_); refine goesL_ (some 15) rfl rfl Try.func24 (by kernel_rfl) rfl #[.pointer (some ⟨g136, 0, none⟩)] rfl (by (try simp only [List.map_toArray, List.map_cons, List.map_nil]); first | done | rfl | (simp only [List.length_drop, List.length_take]; rfl)) ?_; (with_reducible refine (probe_Probe_Open.calls g136 t138 t139 t140 t141 t142 t143 t144 t145 t146 t147 t148 t149 t150 t151 t152 t153 t154 t155 t156 t157 t158 t159 t160 t161 t162 t163 t164 t165 t166 t167 t168 t169 t170 w _ ?side1 ?side2 A4.out).mono ?_); (case side1 => repeat (first | (with_reducible first | exact HI136.out | apply IsS75.alloc | apply IsS75.drewN | apply IsS75.drew | apply IsS75.set_0 | apply IsS75.set_1 | apply IsS75.set_2 | apply IsS75.set_3 | apply IsS75.set_4 | apply IsS75.set_5 | apply IsS75.set_6 | apply IsS75.set_7 | apply IsS75.set_8 | apply IsS75.set_9 | apply IsS75.set_10 | apply IsS75.set_11 | apply IsS75.set_12 | apply IsS75.set_13 | apply IsS75.set_14) | exact HI136.out)); (case side2 => repeat (first | (with_reducible first | exact HB.out | apply below_alloc | apply pw_below_drewN | apply below_drew1 | refine below_set ?_ (IsS75.ge HI136.out)) | exact HB.out)); rintro e w13 ⟨rfl, hi, hb, hk⟩; refine ⟨_, rfl, ?_⟩; have n0_ := Aside0.mk (hb); have n1_ := Aside0.mk (hi); clear HB; clear HI136; have HB := n0_; have HI136 := n1_; clear n0_ n1_; (try clear hb); (try clear hb2); (try clear hk); (try clear hi)) | (go_at_call 29; (with_reducible refine (probe_Probe_Sent.calls g136 t156 t157 t158 t159 t160 t161 t162 t163 t164 t165 t166 t167 t168 t169 t170 1 1500 0 true t172 t173 t174 t175 t176 t177 t178 t179 t180 t181 t182 t183 t184 t185 t186 w _ ?side1 ?side2 A8.out).mono ?_); (case side1 => repeat (first | (with_reducible first | exact HI136.out | apply IsS75.alloc | apply IsS75.drewN | apply IsS75.drew | apply IsS75.set_0 | apply IsS75.set_1 | apply IsS75.set_2 | apply IsS75.set_3 | apply IsS75.set_4 | apply IsS75.set_5 | apply IsS75.set_6 | apply IsS75.set_7 | apply IsS75.set_8 | apply IsS75.set_9 | apply IsS75.set_10 | apply IsS75.set_11 | apply IsS75.set_12 | apply IsS75.set_13 | apply IsS75.set_14) | exact HI136.out)); (case side2 => repeat (first | (with_reducible first | exact HB.out | apply below_alloc | apply pw_below_drewN | apply below_drew1 | refine below_set ?_ (IsS75.ge HI136.out)) | exact HB.out)); rintro e w14 ⟨rfl, hi, hb, hk⟩; have n0_ := Aside0.mk (hb); have n1_ := Aside0.mk (hi); clear HB; clear HI136; have HB := n0_; have HI136 := n1_; clear n0_ n1_; (try clear hb); (try clear hb2); (try clear hk); (try clear hi)) | (go_at_call 23; (with_reducible refine (probe_Probe_Start.calls g136 t172 t173 t174 t175 t176 t177 t178 t179 t180 t181 t182 t183 t184 t185 t186 1 t187 t188 t189 t190 t191 t192 t193 t194 t195 t196 t197 t198 t199 t200 t201 t202 w _ ?side1 ?side2 A10.out).mono ?_); (case side1 => repeat (first | (with_reducible first | exact HI136.out | apply IsS75.alloc | apply IsS75.drewN | apply IsS75.drew | apply IsS75.set_0 | apply IsS75.set_1 | apply IsS75.set_2 | apply IsS75.set_3 | apply IsS75.set_4 | apply IsS75.set_5 | apply IsS75.set_6 | apply IsS75.set_7 | apply IsS75.set_8 | apply IsS75.set_9 | apply IsS75.set_10 | apply IsS75.set_11 | apply IsS75.set_12 | apply IsS75.set_13 | apply IsS75.set_14) | exact HI136.out)); (case side2 => repeat (first | (with_reducible first | exact HB.out | apply below_alloc | apply pw_below_drewN | apply below_drew1 | refine below_set ?_ (IsS75.ge HI136.out)) | exact HB.out)); rintro e w15 ⟨rfl, hi, hb, hk⟩; have n0_ := Aside0.mk (hb); have n1_ := Aside0.mk (hi); clear HB; clear HI136; have HB := n0_; have HI136 := n1_; clear n0_ n1_; (try clear hb); (try clear hb2); (try clear hk); (try clear hi)))
      go_ret
      exact ⟨by first | rfl | (simp [errW_none, errW_some] <;> rfl) | (simp [*, errW_none, errW_some] <;> rfl), by repeat (first | (with_reducible first | exact HB.out | apply below_alloc | apply pw_below_drewN | apply below_drew1 | refine below_set ?_ (IsS75.ge HI136.out)) | exact HB.out)⟩
     ·replace c9 := Bool.eq_false_iff.mpr c9
      subst c9
      have H1 : (some false) = some r := by rw [if_neg (show ¬ (false = true) by decide)] at H; exact H
      clear H
      have H := H1
      clear H1
      obtain rfl := Option.some.inj H
      go_enter Try.func26, Try.ntmps26
      go_wp2_with (first | ((with_reducible refine gate_callee (f := 21) rfl ?_); refine goesL_ (some 5) rfl rfl Try.func21 (by kernel_rfl) rfl #[] rfl (by (try simp only [List.map_toArray, List.map_cons, List.map_nil]); first | done | rfl | (simp only [List.length_drop, List.length_take]; rfl)) ?_; (with_reducible refine (probe_New.calls  t121 t122 t123 t124 t125 t126 t127 t128 t129 t130 t131 t132 t133 t134 t135 _ _ (Below.refl _ _) A1.out).mono ?_); rintro e w16 ⟨g136, rfl, hi, hb, hb2⟩; refine ⟨_, rfl, ?_⟩; have n0_ := Aside0.mk (below_step (by repeat (first | (with_reducible first | exact HB.out | apply below_alloc | apply pw_below_drewN | apply below_drew1) | exact HB.out)) hb2); have n1_ := Aside0.mk ((IsS75.rebase hi (below_size (by repeat (first | (with_reducible first | exact HB.out | apply below_alloc | apply pw_below_drewN | apply below_drew1) | exact HB.out))))); clear HB; have HB := n0_; have HI136 := n1_; clear n0_ n1_; (try clear hb); (try clear hb2); (try clear hk); (try clear hi)) | (go_at_call 23; (with_reducible refine (probe_Probe_Start.calls g136 t121 t122 t123 t124 t125 t126 t127 t128 t129 t130 t131 t132 t133 t134 t135 8000000 t137 t138 t139 t140 t141 t142 t143 t144 t145 t146 t147 t148 t149 t150 t151 t152 w _ ?side1 ?side2 A2.out).mono ?_); (case side1 => repeat (first | (with_reducible first | exact HI136.out | apply IsS75.alloc | apply IsS75.drewN | apply IsS75.drew | apply IsS75.set_0 | apply IsS75.set_1 | apply IsS75.set_2 | apply IsS75.set_3 | apply IsS75.set_4 | apply IsS75.set_5 | apply IsS75.set_6 | apply IsS75.set_7 | apply IsS75.set_8 | apply IsS75.set_9 | apply IsS75.set_10 | apply IsS75.set_11 | apply IsS75.set_12 | apply IsS75.set_13 | apply IsS75.set_14) | exact HI136.out)); (case side2 => repeat (first | (with_reducible first | exact HB.out | apply below_alloc | apply pw_below_drewN | apply below_drew1 | refine below_set ?_ (IsS75.ge HI136.out)) | exact HB.out)); rintro e w17 ⟨rfl, hi, hb, hk⟩; have n0_ := Aside0.mk (hb); have n1_ := Aside0.mk (hi); clear HB; clear HI136; have HB := n0_; have HI136 := n1_; clear n0_ n1_; (try clear hb); (try clear hb2); (try clear hk); (try clear hi)) | ((with_reducible refine gate_callee (f := 24) rfl ?_); refine goesL_ (some 15) rfl rfl Try.func24 (by kernel_rfl) rfl #[.pointer (some ⟨g136, 0, none⟩)] rfl (by (try simp only [List.map_toArray, List.map_cons, List.map_nil]); first | done | rfl | (simp only [List.length_drop, List.length_take]; rfl)) ?_; (with_reducible refine (probe_Probe_Open.calls g136 t138 t139 t140 t141 t142 t143 t144 t145 t146 t147 t148 t149 t150 t151 t152 t153 t154 t155 t156 t157 t158 t159 t160 t161 t162 t163 t164 t165 t166 t167 t168 t169 t170 w _ ?side1 ?side2 A4.out).mono ?_); (case side1 => repeat (first | (with_reducible first | exact HI136.out | apply IsS75.alloc | apply IsS75.drewN | apply IsS75.drew | apply IsS75.set_0 | apply IsS75.set_1 | apply IsS75.set_2 | apply IsS75.set_3 | apply IsS75.set_4 | apply IsS75.set_5 | apply IsS75.set_6 | apply IsS75.set_7 | apply IsS75.set_8 | apply IsS75.set_9 | apply IsS75.set_10 | apply IsS75.set_11 | apply IsS75.set_12 | apply IsS75.set_13 | apply IsS75.set_14) | exact HI136.out)); (case side2 => repeat (first | (with_reducible first | exact HB.out | apply below_alloc | apply pw_below_drewN | apply below_drew1 | refine below_set ?_ (IsS75.ge HI136.out)) | exact HB.out)); rintro e w18 ⟨rfl, hi, hb, hk⟩; refine ⟨_, rfl, ?_⟩; have n0_ := Aside0.mk (hb); have n1_ := Aside0.mk (hi); clear HB; clear HI136; have HB := n0_; have HI136 := n1_; clear n0_ n1_; (try clear hb); (try clear hb2); (try clear hk); (try clear hi)) | (go_at_call 29; (with_reducible refine (probe_Probe_Sent.calls g136 t156 t157 t158 t159 t160 t161 t162 t163 t164 t165 t166 t167 t168 t169 t170 1 1500 0 false t172 t173 t174 t175 t176 t177 t178 t179 t180 t181 t182 t183 t184 t185 t186 w _ ?side1 ?side2 A8.out).mono ?_); (case side1 => repeat (first | (with_reducible first | exact HI136.out | apply IsS75.alloc | apply IsS75.drewN | apply IsS75.drew | apply IsS75.set_0 | apply IsS75.set_1 | apply IsS75.set_2 | apply IsS75.set_3 | apply IsS75.set_4 | apply IsS75.set_5 | apply IsS75.set_6 | apply IsS75.set_7 | apply IsS75.set_8 | apply IsS75.set_9 | apply IsS75.set_10 | apply IsS75.set_11 | apply IsS75.set_12 | apply IsS75.set_13 | apply IsS75.set_14) | exact HI136.out)); (case side2 => repeat (first | (with_reducible first | exact HB.out | apply below_alloc | apply pw_below_drewN | apply below_drew1 | refine below_set ?_ (IsS75.ge HI136.out)) | exact HB.out)); rintro e w19 ⟨rfl, hi, hb, hk⟩; have n0_ := Aside0.mk (hb); have n1_ := Aside0.mk (hi); clear HB; clear HI136; have HB := n0_; have HI136 := n1_; clear n0_ n1_; (try clear hb); (try clear hb2); (try clear hk); (try clear hi)))
      go_ret
      exact ⟨by first | rfl | (simp [errW_none, errW_some] <;> rfl) | (simp [*, errW_none, errW_some] <;> rfl), by repeat (first | (with_reducible first | exact HB.out | apply below_alloc | apply pw_below_drewN | apply below_drew1 | refine below_set ?_ (IsS75.ge HI136.out)) | exact HB.out)⟩
    ·rw [if_neg c7] at H
     have c7b0 : (t155 == 15000) = false := beq_eq_false_iff_ne.mpr c7
     have c7b1 : (t155 != 15000) = true := bne_iff_ne.mpr c7
     obtain rfl := Option.some.inj H
     go_enter Try.func26, Try.ntmps26
     go_wp2_with (first | ((with_reducible refine gate_callee (f := 21) rfl ?_); refine goesL_ (some 5) rfl rfl Try.func21 (by kernel_rfl) rfl #[] rfl (by (try simp only [List.map_toArray, List.map_cons, List.map_nil]); first | done | rfl | (simp only [List.length_drop, List.length_take]; rfl)) ?_; (with_reducible refine (probe_New.calls  t121 t122 t123 t124 t125 t126 t127 t128 t129 t130 t131 t132 t133 t134 t135 _ _ (Below.refl _ _) A1.out).mono ?_); rintro e w20 ⟨g136, rfl, hi, hb, hb2⟩; refine ⟨_, rfl, ?_⟩; have n0_ := Aside0.mk (below_step (by repeat (first | (with_reducible first | exact HB.out | apply below_alloc | apply pw_below_drewN | apply below_drew1) | exact HB.out)) hb2); have n1_ := Aside0.mk ((IsS75.rebase hi (below_size (by repeat (first | (with_reducible first | exact HB.out | apply below_alloc | apply pw_below_drewN | apply below_drew1) | exact HB.out))))); clear HB; have HB := n0_; have HI136 := n1_; clear n0_ n1_; (try clear hb); (try clear hb2); (try clear hk); (try clear hi)) | (go_at_call 23; (with_reducible refine (probe_Probe_Start.calls g136 t121 t122 t123 t124 t125 t126 t127 t128 t129 t130 t131 t132 t133 t134 t135 8000000 t137 t138 t139 t140 t141 t142 t143 t144 t145 t146 t147 t148 t149 t150 t151 t152 w _ ?side1 ?side2 A2.out).mono ?_); (case side1 => repeat (first | (with_reducible first | exact HI136.out | apply IsS75.alloc | apply IsS75.drewN | apply IsS75.drew | apply IsS75.set_0 | apply IsS75.set_1 | apply IsS75.set_2 | apply IsS75.set_3 | apply IsS75.set_4 | apply IsS75.set_5 | apply IsS75.set_6 | apply IsS75.set_7 | apply IsS75.set_8 | apply IsS75.set_9 | apply IsS75.set_10 | apply IsS75.set_11 | apply IsS75.set_12 | apply IsS75.set_13 | apply IsS75.set_14) | exact HI136.out)); (case side2 => repeat (first | (with_reducible first | exact HB.out | apply below_alloc | apply pw_below_drewN | apply below_drew1 | refine below_set ?_ (IsS75.ge HI136.out)) | exact HB.out)); rintro e w21 ⟨rfl, hi, hb, hk⟩; have n0_ := Aside0.mk (hb); have n1_ := Aside0.mk (hi); clear HB; clear HI136; have HB := n0_; have HI136 := n1_; clear n0_ n1_; (try clear hb); (try clear hb2); (try clear hk); (try clear hi)) | ((with_reducible refine gate_callee (f := 24) rfl ?_); refine goesL_ (some 15) rfl rfl Try.func24 (by kernel_rfl) rfl #[.pointer (some ⟨g136, 0, none⟩)] rfl (by (try simp only [List.map_toArray, List.map_cons, List.map_nil]); first | done | rfl | (simp only [List.length_drop, List.length_take]; rfl)) ?_; (with_reducible refine (probe_Probe_Open.calls g136 t138 t139 t140 t141 t142 t143 t144 t145 t146 t147 t148 t149 t150 t151 t152 t153 t154 t155 t156 t157 t158 t159 t160 t161 t162 t163 t164 t165 t166 t167 t168 t169 t170 w _ ?side1 ?side2 A4.out).mono ?_); (case side1 => repeat (first | (with_reducible first | exact HI136.out | apply IsS75.alloc | apply IsS75.drewN | apply IsS75.drew | apply IsS75.set_0 | apply IsS75.set_1 | apply IsS75.set_2 | apply IsS75.set_3 | apply IsS75.set_4 | apply IsS75.set_5 | apply IsS75.set_6 | apply IsS75.set_7 | apply IsS75.set_8 | apply IsS75.set_9 | apply IsS75.set_10 | apply IsS75.set_11 | apply IsS75.set_12 | apply IsS75.set_13 | apply IsS75.set_14) | exact HI136.out)); (case side2 => repeat (first | (with_reducible first | exact HB.out | apply below_alloc | apply pw_below_drewN | apply below_drew1 | refine below_set ?_ (IsS75.ge HI136.out)) | exact HB.out)); rintro e w22 ⟨rfl, hi, hb, hk⟩; refine ⟨_, rfl, ?_⟩; have n0_ := Aside0.mk (hb); have n1_ := Aside0.mk (hi); clear HB; clear HI136; have HB := n0_; have HI136 := n1_; clear n0_ n1_; (try clear hb); (try clear hb2); (try clear hk); (try clear hi)))
     go_ret
     exact ⟨by first | rfl | (simp [errW_none, errW_some] <;> rfl) | (simp [*, errW_none, errW_some] <;> rfl), by repeat (first | (with_reducible first | exact HB.out | apply below_alloc | apply pw_below_drewN | apply below_drew1 | refine below_set ?_ (IsS75.ge HI136.out)) | exact HB.out)⟩
   ·rw [if_neg c6] at H
    have c6b0 : (t154 == 8000000) = false := beq_eq_false_iff_ne.mpr c6
    have c6b1 : (t154 != 8000000) = true := bne_iff_ne.mpr c6
    obtain rfl := Option.some.inj H
    go_enter Try.func26, Try.ntmps26
    go_wp2_with (first | ((with_reducible refine gate_callee (f := 21) rfl ?_); refine goesL_ (some 5) rfl rfl Try.func21 (by kernel_rfl) rfl #[] rfl (by (try simp only [List.map_toArray, List.map_cons, List.map_nil]); first | done | rfl | (simp only [List.length_drop, List.length_take]; rfl)) ?_; (with_reducible refine (probe_New.calls  t121 t122 t123 t124 t125 t126 t127 t128 t129 t130 t131 t132 t133 t134 t135 _ _ (Below.refl _ _) A1.out).mono ?_); rintro e w23 ⟨g136, rfl, hi, hb, hb2⟩; refine ⟨_, rfl, ?_⟩; have n0_ := Aside0.mk (below_step (by repeat (first | (with_reducible first | exact HB.out | apply below_alloc | apply pw_below_drewN | apply below_drew1) | exact HB.out)) hb2); have n1_ := Aside0.mk ((IsS75.rebase hi (below_size (by repeat (first | (with_reducible first | exact HB.out | apply below_alloc | apply pw_below_drewN | apply below_drew1) | exact HB.out))))); clear HB; have HB := n0_; have HI136 := n1_; clear n0_ n1_; (try clear hb); (try clear hb2); (try clear hk); (try clear hi)) | (go_at_call 23; (with_reducible refine (probe_Probe_Start.calls g136 t121 t122 t123 t124 t125 t126 t127 t128 t129 t130 t131 t132 t133 t134 t135 8000000 t137 t138 t139 t140 t141 t142 t143 t144 t145 t146 t147 t148 t149 t150 t151 t152 w _ ?side1 ?side2 A2.out).mono ?_); (case side1 => repeat (first | (with_reducible first | exact HI136.out | apply IsS75.alloc | apply IsS75.drewN | apply IsS75.drew | apply IsS75.set_0 | apply IsS75.set_1 | apply IsS75.set_2 | apply IsS75.set_3 | apply IsS75.set_4 | apply IsS75.set_5 | apply IsS75.set_6 | apply IsS75.set_7 | apply IsS75.set_8 | apply IsS75.set_9 | apply IsS75.set_10 | apply IsS75.set_11 | apply IsS75.set_12 | apply IsS75.set_13 | apply IsS75.set_14) | exact HI136.out)); (case side2 => repeat (first | (with_reducible first | exact HB.out | apply below_alloc | apply pw_below_drewN | apply below_drew1 | refine below_set ?_ (IsS75.ge HI136.out)) | exact HB.out)); rintro e w24 ⟨rfl, hi, hb, hk⟩; have n0_ := Aside0.mk (hb); have n1_ := Aside0.mk (hi); clear HB; clear HI136; have HB := n0_; have HI136 := n1_; clear n0_ n1_; (try clear hb); (try clear hb2); (try clear hk); (try clear hi)) | ((with_reducible refine gate_callee (f := 24) rfl ?_); refine goesL_ (some 15) rfl rfl Try.func24 (by kernel_rfl) rfl #[.pointer (some ⟨g136, 0, none⟩)] rfl (by (try simp only [List.map_toArray, List.map_cons, List.map_nil]); first | done | rfl | (simp only [List.length_drop, List.length_take]; rfl)) ?_; (with_reducible refine (probe_Probe_Open.calls g136 t138 t139 t140 t141 t142 t143 t144 t145 t146 t147 t148 t149 t150 t151 t152 t153 t154 t155 t156 t157 t158 t159 t160 t161 t162 t163 t164 t165 t166 t167 t168 t169 t170 w _ ?side1 ?side2 A4.out).mono ?_); (case side1 => repeat (first | (with_reducible first | exact HI136.out | apply IsS75.alloc | apply IsS75.drewN | apply IsS75.drew | apply IsS75.set_0 | apply IsS75.set_1 | apply IsS75.set_2 | apply IsS75.set_3 | apply IsS75.set_4 | apply IsS75.set_5 | apply IsS75.set_6 | apply IsS75.set_7 | apply IsS75.set_8 | apply IsS75.set_9 | apply IsS75.set_10 | apply IsS75.set_11 | apply IsS75.set_12 | apply IsS75.set_13 | apply IsS75.set_14) | exact HI136.out)); (case side2 => repeat (first | (with_reducible first | exact HB.out | apply below_alloc | apply pw_below_drewN | apply below_drew1 | refine below_set ?_ (IsS75.ge HI136.out)) | exact HB.out)); rintro e w25 ⟨rfl, hi, hb, hk⟩; refine ⟨_, rfl, ?_⟩; have n0_ := Aside0.mk (hb); have n1_ := Aside0.mk (hi); clear HB; clear HI136; have HB := n0_; have HI136 := n1_; clear n0_ n1_; (try clear hb); (try clear hb2); (try clear hk); (try clear hi)))
    go_ret
    exact ⟨by first | rfl | (simp [errW_none, errW_some] <;> rfl) | (simp [*, errW_none, errW_some] <;> rfl), by repeat (first | (with_reducible first | exact HB.out | apply below_alloc | apply pw_below_drewN | apply below_drew1 | refine below_set ?_ (IsS75.ge HI136.out)) | exact HB.out)⟩
  ·rw [if_neg c5] at H
   have c5b0 : (t153 == 1) = false := beq_eq_false_iff_ne.mpr c5
   have c5b1 : (t153 != 1) = true := bne_iff_ne.mpr c5
   obtain rfl := Option.some.inj H
   go_enter Try.func26, Try.ntmps26
   go_wp2_with (first | ((with_reducible refine gate_callee (f := 21) rfl ?_); refine goesL_ (some 5) rfl rfl Try.func21 (by kernel_rfl) rfl #[] rfl (by (try simp only [List.map_toArray, List.map_cons, List.map_nil]); first | done | rfl | (simp only [List.length_drop, List.length_take]; rfl)) ?_; (with_reducible refine (probe_New.calls  t121 t122 t123 t124 t125 t126 t127 t128 t129 t130 t131 t132 t133 t134 t135 _ _ (Below.refl _ _) A1.out).mono ?_); rintro e w26 ⟨g136, rfl, hi, hb, hb2⟩; refine ⟨_, rfl, ?_⟩; have n0_ := Aside0.mk (below_step (by repeat (first | (with_reducible first | exact HB.out | apply below_alloc | apply pw_below_drewN | apply below_drew1) | exact HB.out)) hb2); have n1_ := Aside0.mk ((IsS75.rebase hi (below_size (by repeat (first | (with_reducible first | exact HB.out | apply below_alloc | apply pw_below_drewN | apply below_drew1) | exact HB.out))))); clear HB; have HB := n0_; have HI136 := n1_; clear n0_ n1_; (try clear hb); (try clear hb2); (try clear hk); (try clear hi)) | (go_at_call 23; (with_reducible refine (probe_Probe_Start.calls g136 t121 t122 t123 t124 t125 t126 t127 t128 t129 t130 t131 t132 t133 t134 t135 8000000 t137 t138 t139 t140 t141 t142 t143 t144 t145 t146 t147 t148 t149 t150 t151 t152 w _ ?side1 ?side2 A2.out).mono ?_); (case side1 => repeat (first | (with_reducible first | exact HI136.out | apply IsS75.alloc | apply IsS75.drewN | apply IsS75.drew | apply IsS75.set_0 | apply IsS75.set_1 | apply IsS75.set_2 | apply IsS75.set_3 | apply IsS75.set_4 | apply IsS75.set_5 | apply IsS75.set_6 | apply IsS75.set_7 | apply IsS75.set_8 | apply IsS75.set_9 | apply IsS75.set_10 | apply IsS75.set_11 | apply IsS75.set_12 | apply IsS75.set_13 | apply IsS75.set_14) | exact HI136.out)); (case side2 => repeat (first | (with_reducible first | exact HB.out | apply below_alloc | apply pw_below_drewN | apply below_drew1 | refine below_set ?_ (IsS75.ge HI136.out)) | exact HB.out)); rintro e w27 ⟨rfl, hi, hb, hk⟩; have n0_ := Aside0.mk (hb); have n1_ := Aside0.mk (hi); clear HB; clear HI136; have HB := n0_; have HI136 := n1_; clear n0_ n1_; (try clear hb); (try clear hb2); (try clear hk); (try clear hi)) | ((with_reducible refine gate_callee (f := 24) rfl ?_); refine goesL_ (some 15) rfl rfl Try.func24 (by kernel_rfl) rfl #[.pointer (some ⟨g136, 0, none⟩)] rfl (by (try simp only [List.map_toArray, List.map_cons, List.map_nil]); first | done | rfl | (simp only [List.length_drop, List.length_take]; rfl)) ?_; (with_reducible refine (probe_Probe_Open.calls g136 t138 t139 t140 t141 t142 t143 t144 t145 t146 t147 t148 t149 t150 t151 t152 t153 t154 t155 t156 t157 t158 t159 t160 t161 t162 t163 t164 t165 t166 t167 t168 t169 t170 w _ ?side1 ?side2 A4.out).mono ?_); (case side1 => repeat (first | (with_reducible first | exact HI136.out | apply IsS75.alloc | apply IsS75.drewN | apply IsS75.drew | apply IsS75.set_0 | apply IsS75.set_1 | apply IsS75.set_2 | apply IsS75.set_3 | apply IsS75.set_4 | apply IsS75.set_5 | apply IsS75.set_6 | apply IsS75.set_7 | apply IsS75.set_8 | apply IsS75.set_9 | apply IsS75.set_10 | apply IsS75.set_11 | apply IsS75.set_12 | apply IsS75.set_13 | apply IsS75.set_14) | exact HI136.out)); (case side2 => repeat (first | (with_reducible first | exact HB.out | apply below_alloc | apply pw_below_drewN | apply below_drew1 | refine below_set ?_ (IsS75.ge HI136.out)) | exact HB.out)); rintro e w28 ⟨rfl, hi, hb, hk⟩; refine ⟨_, rfl, ?_⟩; have n0_ := Aside0.mk (hb); have n1_ := Aside0.mk (hi); clear HB; clear HI136; have HB := n0_; have HI136 := n1_; clear n0_ n1_; (try clear hb); (try clear hb2); (try clear hk); (try clear hi)))
   go_ret
   exact ⟨by first | rfl | (simp [errW_none, errW_some] <;> rfl) | (simp [*, errW_none, errW_some] <;> rfl), by repeat (first | (with_reducible first | exact HB.out | apply below_alloc | apply pw_below_drewN | apply below_drew1 | refine below_set ?_ (IsS75.ge HI136.out)) | exact HB.out)⟩
 ·rw [if_neg c3] at H
  have c3b0 : (t137 == 1) = false := beq_eq_false_iff_ne.mpr c3
  have c3b1 : (t137 != 1) = true := bne_iff_ne.mpr c3
  obtain rfl := Option.some.inj H
  go_enter Try.func26, Try.ntmps26
  go_wp2_with (first | ((with_reducible refine gate_callee (f := 21) rfl ?_); refine goesL_ (some 5) rfl rfl Try.func21 (by kernel_rfl) rfl #[] rfl (by (try simp only [List.map_toArray, List.map_cons, List.map_nil]); first | done | rfl | (simp only [List.length_drop, List.length_take]; rfl)) ?_; (with_reducible refine (probe_New.calls  t121 t122 t123 t124 t125 t126 t127 t128 t129 t130 t131 t132 t133 t134 t135 _ _ (Below.refl _ _) A1.out).mono ?_); rintro e w29 ⟨g136, rfl, hi, hb, hb2⟩; refine ⟨_, rfl, ?_⟩; have n0_ := Aside0.mk (below_step (by repeat (first | (with_reducible first | exact HB.out | apply below_alloc | apply pw_below_drewN | apply below_drew1) | exact HB.out)) hb2); have n1_ := Aside0.mk ((IsS75.rebase hi (below_size (by repeat (first | (with_reducible first | exact HB.out | apply below_alloc | apply pw_below_drewN | apply below_drew1) | exact HB.out))))); clear HB; have HB := n0_; have HI136 := n1_; clear n0_ n1_; (try clear hb); (try clear hb2); (try clear hk); (try clear hi)) | (go_at_call 23; (with_reducible refine (probe_Probe_Start.calls g136 t121 t122 t123 t124 t125 t126 t127 t128 t129 t130 t131 t132 t133 t134 t135 8000000 t137 t138 t139 t140 t141 t142 t143 t144 t145 t146 t147 t148 t149 t150 t151 t152 w _ ?side1 ?side2 A2.out).mono ?_); (case side1 => repeat (first | (with_reducible first | exact HI136.out | apply IsS75.alloc | apply IsS75.drewN | apply IsS75.drew | apply IsS75.set_0 | apply IsS75.set_1 | apply IsS75.set_2 | apply IsS75.set_3 | apply IsS75.set_4 | apply IsS75.set_5 | apply IsS75.set_6 | apply IsS75.set_7 | apply IsS75.set_8 | apply IsS75.set_9 | apply IsS75.set_10 | apply IsS75.set_11 | apply IsS75.set_12 | apply IsS75.set_13 | apply IsS75.set_14) | exact HI136.out)); (case side2 => repeat (first | (with_reducible first | exact HB.out | apply below_alloc | apply pw_below_drewN | apply below_drew1 | refine below_set ?_ (IsS75.ge HI136.out)) | exact HB.out)); rintro e w30 ⟨rfl, hi, hb, hk⟩; have n0_ := Aside0.mk (hb); have n1_ := Aside0.mk (hi); clear HB; clear HI136; have HB := n0_; have HI136 := n1_; clear n0_ n1_; (try clear hb); (try clear hb2); (try clear hk); (try clear hi)))
  go_ret
  exact ⟨by first | rfl | (simp [errW_none, errW_some] <;> rfl) | (simp [*, errW_none, errW_some] <;> rfl), by repeat (first | (with_reducible first | exact HB.out | apply below_alloc | apply pw_below_drewN | apply below_drew1 | refine below_set ?_ (IsS75.ge HI136.out)) | exact HB.out)⟩
end Go.Proofs.Ytlgfnclgkhfhpaa.P
end

section
namespace Go.Proofs.Ytlgfnclgkhfhpaa.P
open Go.RowKit Go.Proofs.YtlgfnclgkhfhpaaW.PrintWords Go.Proofs.YtlgfnclgkhfhpaaW.PrintLast Go.Proofs.YtlgfnclgkhfhpaaW.PrintMore
attribute [local go_sem] max2_int min2_int max_two min_two max_three min_three max_four min_four   -- for this text's walks alone
set_option linter.unusedVariables false
set_option linter.unusedSimpArgs false
def probe_Probe_Best.f (s0_0 : Int) (s0_1 : Int) (s0_2 : Int) (s0_3 : Int) (s0_4 : Int) (s0_5 : Int) (s0_6 : Int) (s0_7 : Int) (s0_8 : Int) (s0_9 : Int) (s0_10 : Int) (s0_11 : Int) (s0_12 : Int) (s0_13 : Int) (s0_14 : Int) : Option (Int × Int × Int × Int × Int × Int × Int × Int × Int × Int × Int × Int × Int × Int × Int × Int) := some (s0_2, s0_0, s0_1, s0_2, s0_3, s0_4, s0_5, s0_6, s0_7, s0_8, s0_9, s0_10, s0_11, s0_12, s0_13, s0_14)
set_option maxHeartbeats 16000000 in
set_option maxRecDepth 100000 in
theorem probe_Probe_Best.calls (g : Nat) (s0_0 : Int) (s0_1 : Int) (s0_2 : Int) (s0_3 : Int) (s0_4 : Int) (s0_5 : Int) (s0_6 : Int) (s0_7 : Int) (s0_8 : Int) (s0_9 : Int) (s0_10 : Int) (s0_11 : Int) (s0_12 : Int) (s0_13 : Int) (s0_14 : Int)  (r1 : Int) (r2 : Int) (r3 : Int) (r4 : Int) (r5 : Int) (r6 : Int) (r7 : Int) (r8 : Int) (r9 : Int) (r10 : Int) (r11 : Int) (r12 : Int) (r13 : Int) (r14 : Int) (r15 : Int) (r16 : Int) (w0 w : World) (hI : IsS75 w0 w g s0_0 s0_1 s0_2 s0_3 s0_4 s0_5 s0_6 s0_7 s0_8 s0_9 s0_10 s0_11 s0_12 s0_13 s0_14) (hB : Below w0.heap.size w0 w) (h : probe_Probe_Best.f s0_0 s0_1 s0_2 s0_3 s0_4 s0_5 s0_6 s0_7 s0_8 s0_9 s0_10 s0_11 s0_12 s0_13 s0_14  = some (r1, r2, r3, r4, r5, r6, r7, r8, r9, r10, r11, r12, r13, r14, r15, r16)) :
  Calls Try.prog 33 #[.pointer (some ⟨g, 0, none⟩)] w fun e w' => e = .returned (.int .i64 r1) ∧ IsS75 w0 w' g r2 r3 r4 r5 r6 r7 r8 r9 r10 r11 r12 r13 r14 r15 r16 ∧ Below w0.heap.size w0 w' ∧ KeepT w w' := by
 have hpn35_eql : ∀ (a_ : Addr) (W_ : World), (Go.binOp .eql 35 (.pointer (some a_)) (.pointer none)).run Try.prog W_ = .ok (.bool false) W_ := fun _ _ => by kernel_rfl
 simp only [probe_Probe_Best.f] at h
 simp only [Option.some.injEq, Prod.mk.injEq] at h
 obtain ⟨rfl, rfl, rfl, rfl, rfl, rfl, rfl, rfl, rfl, rfl, rfl, rfl, rfl, rfl, rfl, rfl⟩ := h
 rcases hI with ⟨e3, m, h0⟩ | ⟨e3, m, c, h0⟩
 ·have HG := Aside0.mk h0.1
  have HS : Aside0 (IsS75 w0 w g s0_0 s0_1 s0_2 s0_3 s0_4 s0_5 s0_6 s0_7 s0_8 s0_9 s0_10 s0_11 s0_12 s0_13 s0_14) := ⟨.inl ⟨e3, m, h0⟩⟩
  clear h0 e3
  have HB := Aside0.mk hB
  clear hB
  have hg_0 := (blk_cell HG.out 0).trans rfl
  have hg_1 := (blk_cell HG.out 1).trans rfl
  have hg_2 := (blk_cell HG.out 2).trans rfl
  have hg_3 := (blk_cell HG.out 3).trans rfl
  have hfg_0 := blk_frozen HG.out 0
  have hfg_1 := blk_frozen HG.out 1
  have hfg_2 := blk_frozen HG.out 2
  have hfg_3 := blk_frozen HG.out 3
  go_enter Try.func33, Try.ntmps33
  go_wp2
  go_ret
  exact ⟨rfl, by repeat (first | exact HS.out | apply IsS75.alloc | apply IsS75.drewN | apply IsS75.drew), by repeat (first | exact HB.out | apply below_alloc | apply pw_below_drewN | apply below_drew1), by repeat (first | exact KeepT.refl _ | refine KeepT.below ?_ (below_drew (Below.refl _ _)) | refine KeepT.below ?_ (pw_below_drewN (Below.refl _ _) _))⟩
 ·have HG := Aside0.mk h0.1
  have HS : Aside0 (IsS75 w0 w g s0_0 s0_1 s0_2 s0_3 s0_4 s0_5 s0_6 s0_7 s0_8 s0_9 s0_10 s0_11 s0_12 s0_13 s0_14) := ⟨.inr ⟨e3, m, c, h0⟩⟩
  clear h0 e3
  have HB := Aside0.mk hB
  clear hB
  have hg_0 := (blk_cell HG.out 0).trans rfl
  have hg_1 := (blk_cell HG.out 1).trans rfl
  have hg_2 := (blk_cell HG.out 2).trans rfl
  have hg_3 := (blk_cell HG.out 3).trans rfl
  have hfg_0 := blk_frozen HG.out 0
  have hfg_1 := blk_frozen HG.out 1
  have hfg_2 := blk_frozen HG.out 2
  have hfg_3 := blk_frozen HG.out 3
  go_enter Try.func33, Try.ntmps33
  go_wp2
  go_ret
  exact ⟨rfl, by repeat (first | exact HS.out | apply IsS75.alloc | apply IsS75.drewN | apply IsS75.drew), by repeat (first | exact HB.out | apply below_alloc | apply pw_below_drewN | apply below_drew1), by repeat (first | exact KeepT.refl _ | refine KeepT.below ?_ (below_drew (Below.refl _ _)) | refine KeepT.below ?_ (pw_below_drewN (Below.refl _ _) _))⟩
mutual
def flywheellaw26_ProbeFinds.l0 : Nat → Int → Int → Int → Int → Int → Int → Int → Int → Int → Int → Int → Int → Int → Int → Int → Int → Int → Int → Int → Int → Option (Bool)
 | 0, _, _, _, _, _, _, _, _, _, _, _, _, _, _, _, _, _, _, _, _ => none
 | k + 1, x8, x9, x10, x11, x12, x309000, x309001, x309002, x309003, x309004, x309005, x309006, x309007, x309008, x309009, x309010, x309011, x309012, x309013, x309014 => if x12 = 1 then ((probe_Probe_Sent.f x309000 x309001 x309002 x309003 x309004 x309005 x309006 x309007 x309008 x309009 x309010 x309011 x309012 x309013 x309014 1 x8 (wrap64 (x11 * x9))).bind fun bt343 => (if bt343.1 = true then ((probe_Probe_Open.f bt343.2.1 bt343.2.2.1 bt343.2.2.2.1 bt343.2.2.2.2.1 bt343.2.2.2.2.2.1 bt343.2.2.2.2.2.2.1 bt343.2.2.2.2.2.2.2.1 bt343.2.2.2.2.2.2.2.2.1 bt343.2.2.2.2.2.2.2.2.2.1 bt343.2.2.2.2.2.2.2.2.2.2.1 bt343.2.2.2.2.2.2.2.2.2.2.2.1 bt343.2.2.2.2.2.2.2.2.2.2.2.2.1 bt343.2.2.2.2.2.2.2.2.2.2.2.2.2.1 bt343.2.2.2.2.2.2.2.2.2.2.2.2.2.2.1 bt343.2.2.2.2.2.2.2.2.2.2.2.2.2.2.2).bind fun bt359 => (flywheellaw26_ProbeFinds.l0 k x8 x9 x10 (wrap64 (x11 + 1)) bt359.1 bt359.2.2.2.1 bt359.2.2.2.2.1 bt359.2.2.2.2.2.1 bt359.2.2.2.2.2.2.1 bt359.2.2.2.2.2.2.2.1 bt359.2.2.2.2.2.2.2.2.1 bt359.2.2.2.2.2.2.2.2.2.1 bt359.2.2.2.2.2.2.2.2.2.2.1 bt359.2.2.2.2.2.2.2.2.2.2.2.1 bt359.2.2.2.2.2.2.2.2.2.2.2.2.1 bt359.2.2.2.2.2.2.2.2.2.2.2.2.2.1 bt359.2.2.2.2.2.2.2.2.2.2.2.2.2.2.1 bt359.2.2.2.2.2.2.2.2.2.2.2.2.2.2.2.1 bt359.2.2.2.2.2.2.2.2.2.2.2.2.2.2.2.2.1 bt359.2.2.2.2.2.2.2.2.2.2.2.2.2.2.2.2.2)) else (some false))) else (flywheellaw26_ProbeFinds.l1 k x8 x9 x10 x11 0 0 x309000 x309001 x309002 x309003 x309004 x309005 x309006 x309007 x309008 x309009 x309010 x309011 x309012 x309013 x309014)
def flywheellaw26_ProbeFinds.l1 : Nat → Int → Int → Int → Int → Int → Int → Int → Int → Int → Int → Int → Int → Int → Int → Int → Int → Int → Int → Int → Int → Int → Option (Bool)
 | 0, _, _, _, _, _, _, _, _, _, _, _, _, _, _, _, _, _, _, _, _, _ => none
 | k + 1, x8, x9, x10, x11, x15, x16, x309000, x309001, x309002, x309003, x309004, x309005, x309006, x309007, x309008, x309009, x309010, x309011, x309012, x309013, x309014 => if x16 < x11 then ((probe_Probe_Got.f k x309000 x309001 x309002 x309003 x309004 x309005 x309006 x309007 x309008 x309009 x309010 x309011 x309012 x309013 x309014 1 x8 (wrap64 (x16 * x9)) (wrap64 (7 + (wrap64 (x16 * (wrap64 (x9 + x10))))))).bind fun bt377 => (flywheellaw26_ProbeFinds.l1 k x8 x9 x10 x11 bt377.1 (wrap64 (x16 + 1)) bt377.2.1 bt377.2.2.1 bt377.2.2.2.1 bt377.2.2.2.2.1 bt377.2.2.2.2.2.1 bt377.2.2.2.2.2.2.1 bt377.2.2.2.2.2.2.2.1 bt377.2.2.2.2.2.2.2.2.1 bt377.2.2.2.2.2.2.2.2.2.1 bt377.2.2.2.2.2.2.2.2.2.2.1 bt377.2.2.2.2.2.2.2.2.2.2.2.1 bt377.2.2.2.2.2.2.2.2.2.2.2.2.1 bt377.2.2.2.2.2.2.2.2.2.2.2.2.2.1 bt377.2.2.2.2.2.2.2.2.2.2.2.2.2.2.1 bt377.2.2.2.2.2.2.2.2.2.2.2.2.2.2.2)) else (if x11 < 4 then (if x15 = 0 then ((flywheellaw26_wakes.f).bind fun t393 => (some t393)) else (some false)) else ((units_Rate.f (wrap64 ((wrap64 (x11 - 1)) * x8)) (wrap64 ((wrap64 (x11 - 1)) * (wrap64 (x9 + x10))))).bind fun t394 => (if x15 = t394 then ((probe_Probe_Best.f x309000 x309001 x309002 x309003 x309004 x309005 x309006 x309007 x309008 x309009 x309010 x309011 x309012 x309013 x309014).bind fun bt395 => (if bt395.1 ≥ x15 then (if x8 = 0 then (none) else (if x11 = (wrap64 (Int.tdiv (wrap64 ((wrap64 (15000 + x8)) - 1)) x8)) then ((flywheellaw26_wakes.f).bind fun t411 => (some t411)) else (some false))) else (some false))) else (some false))))
end
def flywheellaw26_ProbeFinds.f (k : Nat) (a0 : Int) (a1 : Int) (a2 : Int) : Option (Bool) := (probe_New.f).bind fun bt293 => ((probe_Probe_Start.f bt293.1 bt293.2.1 bt293.2.2.1 bt293.2.2.2.1 bt293.2.2.2.2.1 bt293.2.2.2.2.2.1 bt293.2.2.2.2.2.2.1 bt293.2.2.2.2.2.2.2.1 bt293.2.2.2.2.2.2.2.2.1 bt293.2.2.2.2.2.2.2.2.2.1 bt293.2.2.2.2.2.2.2.2.2.2.1 bt293.2.2.2.2.2.2.2.2.2.2.2.1 bt293.2.2.2.2.2.2.2.2.2.2.2.2.1 bt293.2.2.2.2.2.2.2.2.2.2.2.2.2.1 bt293.2.2.2.2.2.2.2.2.2.2.2.2.2.2 8000000).bind fun bt309 => (if bt309.1 = 1 then ((probe_Probe_Open.f bt309.2.1 bt309.2.2.1 bt309.2.2.2.1 bt309.2.2.2.2.1 bt309.2.2.2.2.2.1 bt309.2.2.2.2.2.2.1 bt309.2.2.2.2.2.2.2.1 bt309.2.2.2.2.2.2.2.2.1 bt309.2.2.2.2.2.2.2.2.2.1 bt309.2.2.2.2.2.2.2.2.2.2.1 bt309.2.2.2.2.2.2.2.2.2.2.2.1 bt309.2.2.2.2.2.2.2.2.2.2.2.2.1 bt309.2.2.2.2.2.2.2.2.2.2.2.2.2.1 bt309.2.2.2.2.2.2.2.2.2.2.2.2.2.2.1 bt309.2.2.2.2.2.2.2.2.2.2.2.2.2.2.2).bind fun bt325 => (flywheellaw26_ProbeFinds.l0 k (wrap64 (200 + (Int.tmod (wrap64 (a0)) 1301))) (wrap64 (1 + (Int.tmod (wrap64 (a1)) 5000))) (Int.tmod (wrap64 (a2)) 5000) 0 bt325.1 bt325.2.2.2.1 bt325.2.2.2.2.1 bt325.2.2.2.2.2.1 bt325.2.2.2.2.2.2.1 bt325.2.2.2.2.2.2.2.1 bt325.2.2.2.2.2.2.2.2.1 bt325.2.2.2.2.2.2.2.2.2.1 bt325.2.2.2.2.2.2.2.2.2.2.1 bt325.2.2.2.2.2.2.2.2.2.2.2.1 bt325.2.2.2.2.2.2.2.2.2.2.2.2.1 bt325.2.2.2.2.2.2.2.2.2.2.2.2.2.1 bt325.2.2.2.2.2.2.2.2.2.2.2.2.2.2.1 bt325.2.2.2.2.2.2.2.2.2.2.2.2.2.2.2.1 bt325.2.2.2.2.2.2.2.2.2.2.2.2.2.2.2.2.1 bt325.2.2.2.2.2.2.2.2.2.2.2.2.2.2.2.2.2)) else (some false)))
set_option maxHeartbeats 8000000 in
set_option maxRecDepth 100000 in
theorem flywheellaw26_ProbeFinds.calls (k : Nat) (a0 : Int) (a1 : Int) (a2 : Int) (r : Bool) (w : World) (h : flywheellaw26_ProbeFinds.f k a0 a1 a2 = some r) :
  Calls Try.prog 7 #[.int .u16 a0, .int .u16 a1, .int .u16 a2] w fun e w' => e = .returned (.bool r) ∧ Below w.heap.size w w' := by
 have HB := Aside0.mk (Below.refl w.heap.size w)
 have H : ((probe_New.f).bind fun bt293 => ((probe_Probe_Start.f bt293.1 bt293.2.1 bt293.2.2.1 bt293.2.2.2.1 bt293.2.2.2.2.1 bt293.2.2.2.2.2.1 bt293.2.2.2.2.2.2.1 bt293.2.2.2.2.2.2.2.1 bt293.2.2.2.2.2.2.2.2.1 bt293.2.2.2.2.2.2.2.2.2.1 bt293.2.2.2.2.2.2.2.2.2.2.1 bt293.2.2.2.2.2.2.2.2.2.2.2.1 bt293.2.2.2.2.2.2.2.2.2.2.2.2.1 bt293.2.2.2.2.2.2.2.2.2.2.2.2.2.1 bt293.2.2.2.2.2.2.2.2.2.2.2.2.2.2 8000000).bind fun bt309 => (if bt309.1 = 1 then ((probe_Probe_Open.f bt309.2.1 bt309.2.2.1 bt309.2.2.2.1 bt309.2.2.2.2.1 bt309.2.2.2.2.2.1 bt309.2.2.2.2.2.2.1 bt309.2.2.2.2.2.2.2.1 bt309.2.2.2.2.2.2.2.2.1 bt309.2.2.2.2.2.2.2.2.2.1 bt309.2.2.2.2.2.2.2.2.2.2.1 bt309.2.2.2.2.2.2.2.2.2.2.2.1 bt309.2.2.2.2.2.2.2.2.2.2.2.2.1 bt309.2.2.2.2.2.2.2.2.2.2.2.2.2.1 bt309.2.2.2.2.2.2.2.2.2.2.2.2.2.2.1 bt309.2.2.2.2.2.2.2.2.2.2.2.2.2.2.2).bind fun bt325 => (flywheellaw26_ProbeFinds.l0 k (wrap64 (200 + (Int.tmod (wrap64 (a0)) 1301))) (wrap64 (1 + (Int.tmod (wrap64 (a1)) 5000))) (Int.tmod (wrap64 (a2)) 5000) 0 bt325.1 bt325.2.2.2.1 bt325.2.2.2.2.1 bt325.2.2.2.2.2.1 bt325.2.2.2.2.2.2.1 bt325.2.2.2.2.2.2.2.1 bt325.2.2.2.2.2.2.2.2.1 bt325.2.2.2.2.2.2.2.2.2.1 bt325.2.2.2.2.2.2.2.2.2.2.1 bt325.2.2.2.2.2.2.2.2.2.2.2.1 bt325.2.2.2.2.2.2.2.2.2.2.2.2.1 bt325.2.2.2.2.2.2.2.2.2.2.2.2.2.1 bt325.2.2.2.2.2.2.2.2.2.2.2.2.2.2.1 bt325.2.2.2.2.2.2.2.2.2.2.2.2.2.2.2.1 bt325.2.2.2.2.2.2.2.2.2.2.2.2.2.2.2.2.1 bt325.2.2.2.2.2.2.2.2.2.2.2.2.2.2.2.2.2)) else (some false)))) = some r := h
 clear h
 replace H := Option.bind_eq_some_iff.mp H
 obtain ⟨⟨t293, t294, t295, t296, t297, t298, t299, t300, t301, t302, t303, t304, t305, t306, t307⟩, A40, H⟩ := H
 replace H : ((probe_Probe_Start.f t293 t294 t295 t296 t297 t298 t299 t300 t301 t302 t303 t304 t305 t306 t307 8000000).bind fun bt309 => (if bt309.1 = 1 then ((probe_Probe_Open.f bt309.2.1 bt309.2.2.1 bt309.2.2.2.1 bt309.2.2.2.2.1 bt309.2.2.2.2.2.1 bt309.2.2.2.2.2.2.1 bt309.2.2.2.2.2.2.2.1 bt309.2.2.2.2.2.2.2.2.1 bt309.2.2.2.2.2.2.2.2.2.1 bt309.2.2.2.2.2.2.2.2.2.2.1 bt309.2.2.2.2.2.2.2.2.2.2.2.1 bt309.2.2.2.2.2.2.2.2.2.2.2.2.1 bt309.2.2.2.2.2.2.2.2.2.2.2.2.2.1 bt309.2.2.2.2.2.2.2.2.2.2.2.2.2.2.1 bt309.2.2.2.2.2.2.2.2.2.2.2.2.2.2.2).bind fun bt325 => (flywheellaw26_ProbeFinds.l0 k (wrap64 (200 + (Int.tmod (wrap64 (a0)) 1301))) (wrap64 (1 + (Int.tmod (wrap64 (a1)) 5000))) (Int.tmod (wrap64 (a2)) 5000) 0 bt325.1 bt325.2.2.2.1 bt325.2.2.2.2.1 bt325.2.2.2.2.2.1 bt325.2.2.2.2.2.2.1 bt325.2.2.2.2.2.2.2.1 bt325.2.2.2.2.2.2.2.2.1 bt325.2.2.2.2.2.2.2.2.2.1 bt325.2.2.2.2.2.2.2.2.2.2.1 bt325.2.2.2.2.2.2.2.2.2.2.2.1 bt325.2.2.2.2.2.2.2.2.2.2.2.2.1 bt325.2.2.2.2.2.2.2.2.2.2.2.2.2.1 bt325.2.2.2.2.2.2.2.2.2.2.2.2.2.2.1 bt325.2.2.2.2.2.2.2.2.2.2.2.2.2.2.2.1 bt325.2.2.2.2.2.2.2.2.2.2.2.2.2.2.2.2.1 bt325.2.2.2.2.2.2.2.2.2.2.2.2.2.2.2.2.2)) else (some false))) = some r := H
 have A4 := Aside0.mk A40
 clear A40
 replace H := Option.bind_eq_some_iff.mp H
 obtain ⟨⟨t309, t310, t311, t312, t313, t314, t315, t316, t317, t318, t319, t320, t321, t322, t323, t324⟩, A50, H⟩ := H
 replace H : (if t309 = 1 then ((probe_Probe_Open.f t310 t311 t312 t313 t314 t315 t316 t317 t318 t319 t320 t321 t322 t323 t324).bind fun bt325 => (flywheellaw26_ProbeFinds.l0 k (wrap64 (200 + (Int.tmod (wrap64 (a0)) 1301))) (wrap64 (1 + (Int.tmod (wrap64 (a1)) 5000))) (Int.tmod (wrap64 (a2)) 5000) 0 bt325.1 bt325.2.2.2.1 bt325.2.2.2.2.1 bt325.2.2.2.2.2.1 bt325.2.2.2.2.2.2.1 bt325.2.2.2.2.2.2.2.1 bt325.2.2.2.2.2.2.2.2.1 bt325.2.2.2.2.2.2.2.2.2.1 bt325.2.2.2.2.2.2.2.2.2.2.1 bt325.2.2.2.2.2.2.2.2.2.2.2.1 bt325.2.2.2.2.2.2.2.2.2.2.2.2.1 bt325.2.2.2.2.2.2.2.2.2.2.2.2.2.1 bt325.2.2.2.2.2.2.2.2.2.2.2.2.2.2.1 bt325.2.2.2.2.2.2.2.2.2.2.2.2.2.2.2.1 bt325.2.2.2.2.2.2.2.2.2.2.2.2.2.2.2.2.1 bt325.2.2.2.2.2.2.2.2.2.2.2.2.2.2.2.2.2)) else (some false)) = some r := H
 have A5 := Aside0.mk A50
 clear A50
 by_cases c6 : t309 = 1
 ·rw [if_pos c6] at H
  have c6b0 : (t309 == 1) = true := beq_iff_eq.mpr c6
  have c6b1 : (t309 != 1) = false := bne_eq_false_iff_eq.mpr c6
  clear c6
  replace H := Option.bind_eq_some_iff.mp H
  obtain ⟨⟨t325, t326, t327, t328, t329, t330, t331, t332, t333, t334, t335, t336, t337, t338, t339, t340, t341, t342⟩, A70, H⟩ := H
  replace H : (flywheellaw26_ProbeFinds.l0 k (wrap64 (200 + (Int.tmod (wrap64 (a0)) 1301))) (wrap64 (1 + (Int.tmod (wrap64 (a1)) 5000))) (Int.tmod (wrap64 (a2)) 5000) 0 t325 t328 t329 t330 t331 t332 t333 t334 t335 t336 t337 t338 t339 t340 t341 t342) = some r := H
  have A7 := Aside0.mk A70
  clear A70
  have H' := Aside0.mk H
  clear H
  go_enter Try.func7, Try.ntmps7
  go_wp2_with (first | ((with_reducible refine gate_callee (f := 21) rfl ?_); refine goesL_ (some 18) rfl rfl Try.func21 (by kernel_rfl) rfl #[] rfl (by (try simp only [List.map_toArray, List.map_cons, List.map_nil]); first | done | rfl | (simp only [List.length_drop, List.length_take]; rfl)) ?_; (with_reducible refine (probe_New.calls  t293 t294 t295 t296 t297 t298 t299 t300 t301 t302 t303 t304 t305 t306 t307 _ _ (Below.refl _ _) A4.out).mono ?_); rintro e w8 ⟨g308, rfl, hi, hb, hb2⟩; refine ⟨_, rfl, ?_⟩; have n0_ := Aside0.mk (below_step (by repeat (first | (with_reducible first | exact HB.out | apply below_alloc | apply pw_below_drewN | apply below_drew1) | exact HB.out)) hb2); have n1_ := Aside0.mk ((IsS75.rebase hi (below_size (by repeat (first | (with_reducible first | exact HB.out | apply below_alloc | apply pw_below_drewN | apply below_drew1) | exact HB.out))))); clear HB; have HB := n0_; have HI308 := n1_; clear n0_ n1_; (try clear hb); (try clear hb2); (try clear hk); (try clear hi)) | ((with_reducible refine gate_callee (f := 23) rfl ?_); refine goesL_ (some 31) rfl rfl Try.func23 (by kernel_rfl) rfl #[.pointer (some ⟨g308, 0, none⟩), .int .i64 8000000] rfl (by (try simp only [List.map_toArray, List.map_cons, List.map_nil]); first | done | rfl | (simp only [List.length_drop, List.length_take]; rfl)) ?_; (with_reducible refine (probe_Probe_Start.calls g308 t293 t294 t295 t296 t297 t298 t299 t300 t301 t302 t303 t304 t305 t306 t307 8000000 t309 t310 t311 t312 t313 t314 t315 t316 t317 t318 t319 t320 t321 t322 t323 t324 w _ ?side1 ?side2 A5.out).mono ?_); (case side1 => repeat (first | (with_reducible first | exact HI308.out | apply IsS75.alloc | apply IsS75.drewN | apply IsS75.drew | apply IsS75.set_0 | apply IsS75.set_1 | apply IsS75.set_2 | apply IsS75.set_3 | apply IsS75.set_4 | apply IsS75.set_5 | apply IsS75.set_6 | apply IsS75.set_7 | apply IsS75.set_8 | apply IsS75.set_9 | apply IsS75.set_10 | apply IsS75.set_11 | apply IsS75.set_12 | apply IsS75.set_13 | apply IsS75.set_14) | exact HI308.out)); (case side2 => repeat (first | (with_reducible first | exact HB.out | apply below_alloc | apply pw_below_drewN | apply below_drew1 | refine below_set ?_ (IsS75.ge HI308.out)) | exact HB.out)); rintro e w9 ⟨rfl, hi, hb, hk⟩; refine ⟨_, rfl, ?_⟩; have n0_ := Aside0.mk (hb); have n1_ := Aside0.mk (hi); clear HB; clear HI308; have HB := n0_; have HI308 := n1_; clear n0_ n1_; (try clear hb); (try clear hb2); (try clear hk); (try clear hi)) | ((with_reducible refine gate_callee (f := 24) rfl ?_); refine goesL_ (some 35) rfl rfl Try.func24 (by kernel_rfl) rfl #[.pointer (some ⟨g308, 0, none⟩)] rfl (by (try simp only [List.map_toArray, List.map_cons, List.map_nil]); first | done | rfl | (simp only [List.length_drop, List.length_take]; rfl)) ?_; (with_reducible refine (probe_Probe_Open.calls g308 t310 t311 t312 t313 t314 t315 t316 t317 t318 t319 t320 t321 t322 t323 t324 t325 t326 t327 t328 t329 t330 t331 t332 t333 t334 t335 t336 t337 t338 t339 t340 t341 t342 w _ ?side1 ?side2 A7.out).mono ?_); (case side1 => repeat (first | (with_reducible first | exact HI308.out | apply IsS75.alloc | apply IsS75.drewN | apply IsS75.drew | apply IsS75.set_0 | apply IsS75.set_1 | apply IsS75.set_2 | apply IsS75.set_3 | apply IsS75.set_4 | apply IsS75.set_5 | apply IsS75.set_6 | apply IsS75.set_7 | apply IsS75.set_8 | apply IsS75.set_9 | apply IsS75.set_10 | apply IsS75.set_11 | apply IsS75.set_12 | apply IsS75.set_13 | apply IsS75.set_14) | exact HI308.out)); (case side2 => repeat (first | (with_reducible first | exact HB.out | apply below_alloc | apply pw_below_drewN | apply below_drew1 | refine below_set ?_ (IsS75.ge HI308.out)) | exact HB.out)); rintro e w10 ⟨rfl, hi, hb, hk⟩; refine ⟨_, rfl, ?_⟩; have n0_ := Aside0.mk (hb); have n1_ := Aside0.mk (hi); clear HB; clear HI308; have HB := n0_; have HI308 := n1_; clear n0_ n1_; (try clear hb); (try clear hb2); (try clear hk); (try clear hi)))
  go_loopg [11, 12] k (fun kq v11 v12 w' => ∃ (x11_1 : Int) (x12_1 : Int) (x309000_1 : Int) (x309001_1 : Int) (x309002_1 : Int) (x309003_1 : Int) (x309004_1 : Int) (x309005_1 : Int) (x309006_1 : Int) (x309007_1 : Int) (x309008_1 : Int) (x309009_1 : Int) (x309010_1 : Int) (x309011_1 : Int) (x309012_1 : Int) (x309013_1 : Int) (x309014_1 : Int), v11 = .int .i64 x11_1 ∧ v12 = .int .i64 x12_1 ∧ Aside0 (flywheellaw26_ProbeFinds.l0 kq (wrap64 (200 + (Int.tmod (wrap64 (a0)) 1301))) (wrap64 (1 + (Int.tmod (wrap64 (a1)) 5000))) (Int.tmod (wrap64 (a2)) 5000) x11_1 x12_1 x309000_1 x309001_1 x309002_1 x309003_1 x309004_1 x309005_1 x309006_1 x309007_1 x309008_1 x309009_1 x309010_1 x309011_1 x309012_1 x309013_1 x309014_1 = some r) ∧ Aside0 (kq ≤ k) ∧ Aside0 (IsS75 w w' g308 x309000_1 x309001_1 x309002_1 x309003_1 x309004_1 x309005_1 x309006_1 x309007_1 x309008_1 x309009_1 x309010_1 x309011_1 x309012_1 x309013_1 x309014_1) ∧ Aside0 (Below w.heap.size w w'))
  case atStart => exact ⟨(0), (t325), (t328), (t329), (t330), (t331), (t332), (t333), (t334), (t335), (t336), (t337), (t338), (t339), (t340), (t341), (t342), (by first | rfl | (simp; done) | (simp [*]; done)), (by first | rfl | (simp; done) | (simp [*]; done)), H', ⟨Nat.le_refl _⟩, ⟨by repeat (first | (with_reducible first | exact HI308.out | apply IsS75.alloc | apply IsS75.drewN | apply IsS75.drew | apply IsS75.set_0 | apply IsS75.set_1 | apply IsS75.set_2 | apply IsS75.set_3 | apply IsS75.set_4 | apply IsS75.set_5 | apply IsS75.set_6 | apply IsS75.set_7 | apply IsS75.set_8 | apply IsS75.set_9 | apply IsS75.set_10 | apply IsS75.set_11 | apply IsS75.set_12 | apply IsS75.set_13 | apply IsS75.set_14) | exact HI308.out)⟩, ⟨by repeat (first | (with_reducible first | exact HB.out | apply below_alloc | apply pw_below_drewN | apply below_drew1 | refine below_set ?_ (IsS75.ge HI308.out)) | exact HB.out)⟩⟩
  case round =>
   clear H'
   try clear c2
   try clear p2
   try clear c6
   try clear c6b0
   try clear c6b1
   try clear p6
   try clear c7
   obtain ⟨x11_1, x12_1, x309000_1, x309001_1, x309002_1, x309003_1, x309004_1, x309005_1, x309006_1, x309007_1, x309008_1, x309009_1, x309010_1, x309011_1, x309012_1, x309013_1, x309014_1, rfl, rfl, HA, HK1, HI308, HB⟩ := hrel
   cases gk with
   | zero => exact absurd HA.out (by simp [flywheellaw26_ProbeFinds.l0])
   | succ k1 =>
    have H := HA.out
    clear HA
    simp only [flywheellaw26_ProbeFinds.l0] at H
    by_cases c11 : x12_1 = 1
    ·rw [if_pos c11] at H
     have c11b0 : (x12_1 == 1) = true := beq_iff_eq.mpr c11
     have c11b1 : (x12_1 != 1) = false := bne_eq_false_iff_eq.mpr c11
     clear c11
     replace H := Option.bind_eq_some_iff.mp H
     obtain ⟨⟨t343, t344, t345, t346, t347, t348, t349, t350, t351, t352, t353, t354, t355, t356, t357, t358⟩, A120, H⟩ := H
     replace H : (if t343 = true then ((probe_Probe_Open.f t344 t345 t346 t347 t348 t349 t350 t351 t352 t353 t354 t355 t356 t357 t358).bind fun bt359 => (flywheellaw26_ProbeFinds.l0 k1 (wrap64 (200 + (Int.tmod (wrap64 (a0)) 1301))) (wrap64 (1 + (Int.tmod (wrap64 (a1)) 5000))) (Int.tmod (wrap64 (a2)) 5000) (wrap64 (x11_1 + 1)) bt359.1 bt359.2.2.2.1 bt359.2.2.2.2.1 bt359.2.2.2.2.2.1 bt359.2.2.2.2.2.2.1 bt359.2.2.2.2.2.2.2.1 bt359.2.2.2.2.2.2.2.2.1 bt359.2.2.2.2.2.2.2.2.2.1 bt359.2.2.2.2.2.2.2.2.2.2.1 bt359.2.2.2.2.2.2.2.2.2.2.2.1 bt359.2.2.2.2.2.2.2.2.2.2.2.2.1 bt359.2.2.2.2.2.2.2.2.2.2.2.2.2.1 bt359.2.2.2.2.2.2.2.2.2.2.2.2.2.2.1 bt359.2.2.2.2.2.2.2.2.2.2.2.2.2.2.2.1 bt359.2.2.2.2.2.2.2.2.2.2.2.2.2.2.2.2.1 bt359.2.2.2.2.2.2.2.2.2.2.2.2.2.2.2.2.2)) else (some false)) = some r := H
     have A12 := Aside0.mk A120
     clear A120
     by_cases c13 : t343 = true
     ·subst c13
      have H1 : ((probe_Probe_Open.f t344 t345 t346 t347 t348 t349 t350 t351 t352 t353 t354 t355 t356 t357 t358).bind fun bt359 => (flywheellaw26_ProbeFinds.l0 k1 (wrap64 (200 + (Int.tmod (wrap64 (a0)) 1301))) (wrap64 (1 + (Int.tmod (wrap64 (a1)) 5000))) (Int.tmod (wrap64 (a2)) 5000) (wrap64 (x11_1 + 1)) bt359.1 bt359.2.2.2.1 bt359.2.2.2.2.1 bt359.2.2.2.2.2.1 bt359.2.2.2.2.2.2.1 bt359.2.2.2.2.2.2.2.1 bt359.2.2.2.2.2.2.2.2.1 bt359.2.2.2.2.2.2.2.2.2.1 bt359.2.2.2.2.2.2.2.2.2.2.1 bt359.2.2.2.2.2.2.2.2.2.2.2.1 bt359.2.2.2.2.2.2.2.2.2.2.2.2.1 bt359.2.2.2.2.2.2.2.2.2.2.2.2.2.1 bt359.2.2.2.2.2.2.2.2.2.2.2.2.2.2.1 bt359.2.2.2.2.2.2.2.2.2.2.2.2.2.2.2.1 bt359.2.2.2.2.2.2.2.2.2.2.2.2.2.2.2.2.1 bt359.2.2.2.2.2.2.2.2.2.2.2.2.2.2.2.2.2)) = some r := by rw [if_pos rfl] at H; exact H
      clear H
      have H := H1
      clear H1
      replace H := Option.bind_eq_some_iff.mp H
      obtain ⟨⟨t359, t360, t361, t362, t363, t364, t365, t366, t367, t368, t369, t370, t371, t372, t373, t374, t375, t376⟩, A140, H⟩ := H
      replace H : (flywheellaw26_ProbeFinds.l0 k1 (wrap64 (200 + (Int.tmod (wrap64 (a0)) 1301))) (wrap64 (1 + (Int.tmod (wrap64 (a1)) 5000))) (Int.tmod (wrap64 (a2)) 5000) (wrap64 (x11_1 + 1)) t359 t362 t363 t364 t365 t366 t367 t368 t369 t370 t371 t372 t373 t374 t375 t376) = some r := H
      have A14 := Aside0.mk A140
      clear A140
      have H' := Aside0.mk H
      clear H
      go_wp2_with (first | ((with_reducible refine gate_callee (f := 29) rfl ?_); refine goesL_ (some 52) rfl rfl Try.func29 (by kernel_rfl) rfl #[.pointer (some ⟨g308, 0, none⟩), .int .i64 1, .int .i64 (wrap64 (200 + (Int.tmod (wrap64 (a0)) 1301))), .int .i64 (wrap64 (x11_1 * (wrap64 (1 + (Int.tmod (wrap64 (a1)) 5000)))))] rfl (by (try simp only [List.map_toArray, List.map_cons, List.map_nil]); first | done | rfl | (simp only [List.length_drop, List.length_take]; rfl)) ?_; (with_reducible refine (probe_Probe_Sent.calls g308 x309000_1 x309001_1 x309002_1 x309003_1 x309004_1 x309005_1 x309006_1 x309007_1 x309008_1 x309009_1 x309010_1 x309011_1 x309012_1 x309013_1 x309014_1 1 (wrap64 (200 + (Int.tmod (wrap64 (a0)) 1301))) (wrap64 (x11_1 * (wrap64 (1 + (Int.tmod (wrap64 (a1)) 5000))))) true t344 t345 t346 t347 t348 t349 t350 t351 t352 t353 t354 t355 t356 t357 t358 w _ ?side1 ?side2 A12.out).mono ?_); (case side1 => repeat (first | (with_reducible first | exact HI308.out | apply IsS75.alloc | apply IsS75.drewN | apply IsS75.drew | apply IsS75.set_0 | apply IsS75.set_1 | apply IsS75.set_2 | apply IsS75.set_3 | apply IsS75.set_4 | apply IsS75.set_5 | apply IsS75.set_6 | apply IsS75.set_7 | apply IsS75.set_8 | apply IsS75.set_9 | apply IsS75.set_10 | apply IsS75.set_11 | apply IsS75.set_12 | apply IsS75.set_13 | apply IsS75.set_14) | exact HI308.out)); (case side2 => repeat (first | (with_reducible first | exact HB.out | apply below_alloc | apply pw_below_drewN | apply below_drew1 | refine below_set ?_ (IsS75.ge HI308.out)) | exact HB.out)); rintro e w15 ⟨rfl, hi, hb, hk⟩; refine ⟨_, rfl, ?_⟩; have n0_ := Aside0.mk (hb); have n1_ := Aside0.mk (hi); clear HB; clear HI308; have HB := n0_; have HI308 := n1_; clear n0_ n1_; (try clear hb); (try clear hb2); (try clear hk); (try clear hi)) | ((with_reducible refine gate_callee (f := 24) rfl ?_); refine goesL_ (some 43) rfl rfl Try.func24 (by kernel_rfl) rfl #[.pointer (some ⟨g308, 0, none⟩)] rfl (by (try simp only [List.map_toArray, List.map_cons, List.map_nil]); first | done | rfl | (simp only [List.length_drop, List.length_take]; rfl)) ?_; (with_reducible refine (probe_Probe_Open.calls g308 t344 t345 t346 t347 t348 t349 t350 t351 t352 t353 t354 t355 t356 t357 t358 t359 t360 t361 t362 t363 t364 t365 t366 t367 t368 t369 t370 t371 t372 t373 t374 t375 t376 w _ ?side1 ?side2 A14.out).mono ?_); (case side1 => repeat (first | (with_reducible first | exact HI308.out | apply IsS75.alloc | apply IsS75.drewN | apply IsS75.drew | apply IsS75.set_0 | apply IsS75.set_1 | apply IsS75.set_2 | apply IsS75.set_3 | apply IsS75.set_4 | apply IsS75.set_5 | apply IsS75.set_6 | apply IsS75.set_7 | apply IsS75.set_8 | apply IsS75.set_9 | apply IsS75.set_10 | apply IsS75.set_11 | apply IsS75.set_12 | apply IsS75.set_13 | apply IsS75.set_14) | exact HI308.out)); (case side2 => repeat (first | (with_reducible first | exact HB.out | apply below_alloc | apply pw_below_drewN | apply below_drew1 | refine below_set ?_ (IsS75.ge HI308.out)) | exact HB.out)); rintro e w16 ⟨rfl, hi, hb, hk⟩; refine ⟨_, rfl, ?_⟩; have n0_ := Aside0.mk (hb); have n1_ := Aside0.mk (hi); clear HB; clear HI308; have HB := n0_; have HI308 := n1_; clear n0_ n1_; (try clear hb); (try clear hb2); (try clear hk); (try clear hi)))
      go_roundg k1
      case measure => have := HK1.out; omega
      case rel => exact ⟨(wrap64 (x11_1 + 1)), (t359), (t362), (t363), (t364), (t365), (t366), (t367), (t368), (t369), (t370), (t371), (t372), (t373), (t374), (t375), (t376), (by first | rfl | (simp; done) | (simp [*]; done)), (by first | rfl | (simp; done) | (simp [*]; done)), H', ⟨by have := HK1.out; omega⟩, ⟨by repeat (first | (with_reducible first | exact HI308.out | apply IsS75.alloc | apply IsS75.drewN | apply IsS75.drew | apply IsS75.set_0 | apply IsS75.set_1 | apply IsS75.set_2 | apply IsS75.set_3 | apply IsS75.set_4 | apply IsS75.set_5 | apply IsS75.set_6 | apply IsS75.set_7 | apply IsS75.set_8 | apply IsS75.set_9 | apply IsS75.set_10 | apply IsS75.set_11 | apply IsS75.set_12 | apply IsS75.set_13 | apply IsS75.set_14) | exact HI308.out)⟩, ⟨by repeat (first | (with_reducible first | exact HB.out | apply below_alloc | apply pw_below_drewN | apply below_drew1 | refine below_set ?_ (IsS75.ge HI308.out)) | exact HB.out)⟩⟩
     ·replace c13 := Bool.eq_false_iff.mpr c13
      subst c13
      have H1 : (some false) = some r := by rw [if_neg (show ¬ (false = true) by decide)] at H; exact H
      clear H
      have H := H1
      clear H1
      obtain rfl := Option.some.inj H
      go_wp2_with (first | ((with_reducible refine gate_callee (f := 29) rfl ?_); refine goesL_ (some 52) rfl rfl Try.func29 (by kernel_rfl) rfl #[.pointer (some ⟨g308, 0, none⟩), .int .i64 1, .int .i64 (wrap64 (200 + (Int.tmod (wrap64 (a0)) 1301))), .int .i64 (wrap64 (x11_1 * (wrap64 (1 + (Int.tmod (wrap64 (a1)) 5000)))))] rfl (by (try simp only [List.map_toArray, List.map_cons, List.map_nil]); first | done | rfl | (simp only [List.length_drop, List.length_take]; rfl)) ?_; (with_reducible refine (probe_Probe_Sent.calls g308 x309000_1 x309001_1 x309002_1 x309003_1 x309004_1 x309005_1 x309006_1 x309007_1 x309008_1 x309009_1 x309010_1 x309011_1 x309012_1 x309013_1 x309014_1 1 (wrap64 (200 + (Int.tmod (wrap64 (a0)) 1301))) (wrap64 (x11_1 * (wrap64 (1 + (Int.tmod (wrap64 (a1)) 5000))))) false t344 t345 t346 t347 t348 t349 t350 t351 t352 t353 t354 t355 t356 t357 t358 w _ ?side1 ?side2 A12.out).mono ?_); (case side1 => repeat (first | (with_reducible first | exact HI308.out | apply IsS75.alloc | apply IsS75.drewN | apply IsS75.drew | apply IsS75.set_0 | apply IsS75.set_1 | apply IsS75.set_2 | apply IsS75.set_3 | apply IsS75.set_4 | apply IsS75.set_5 | apply IsS75.set_6 | apply IsS75.set_7 | apply IsS75.set_8 | apply IsS75.set_9 | apply IsS75.set_10 | apply IsS75.set_11 | apply IsS75.set_12 | apply IsS75.set_13 | apply IsS75.set_14) | exact HI308.out)); (case side2 => repeat (first | (with_reducible first | exact HB.out | apply below_alloc | apply pw_below_drewN | apply below_drew1 | refine below_set ?_ (IsS75.ge HI308.out)) | exact HB.out)); rintro e w17 ⟨rfl, hi, hb, hk⟩; refine ⟨_, rfl, ?_⟩; have n0_ := Aside0.mk (hb); have n1_ := Aside0.mk (hi); clear HB; clear HI308; have HB := n0_; have HI308 := n1_; clear n0_ n1_; (try clear hb); (try clear hb2); (try clear hk); (try clear hi)))
      go_ret
      exact ⟨by first | rfl | (simp [errW_none, errW_some] <;> rfl) | (simp [*, errW_none, errW_some] <;> rfl), by repeat (first | (with_reducible first | exact HB.out | apply below_alloc | apply pw_below_drewN | apply below_drew1 | refine below_set ?_ (IsS75.ge HI308.out)) | exact HB.out)⟩
    ·rw [if_neg c11] at H
     have c11b0 : (x12_1 == 1) = false := beq_eq_false_iff_ne.mpr c11
     have c11b1 : (x12_1 != 1) = true := bne_iff_ne.mpr c11
     have H' := Aside0.mk H
     clear H
     go_wp2
     go_loopg [15, 16] k1 (fun kq v15 v16 w' => ∃ (x15_2 : Int) (x16_2 : Int) (x309000_2 : Int) (x309001_2 : Int) (x309002_2 : Int) (x309003_2 : Int) (x309004_2 : Int) (x309005_2 : Int) (x309006_2 : Int) (x309007_2 : Int) (x309008_2 : Int) (x309009_2 : Int) (x309010_2 : Int) (x309011_2 : Int) (x309012_2 : Int) (x309013_2 : Int) (x309014_2 : Int), v15 = .int .i64 x15_2 ∧ v16 = .int .i64 x16_2 ∧ Aside0 (flywheellaw26_ProbeFinds.l1 kq (wrap64 (200 + (Int.tmod (wrap64 (a0)) 1301))) (wrap64 (1 + (Int.tmod (wrap64 (a1)) 5000))) (Int.tmod (wrap64 (a2)) 5000) x11_1 x15_2 x16_2 x309000_2 x309001_2 x309002_2 x309003_2 x309004_2 x309005_2 x309006_2 x309007_2 x309008_2 x309009_2 x309010_2 x309011_2 x309012_2 x309013_2 x309014_2 = some r) ∧ Aside0 (kq ≤ k1) ∧ Aside0 (IsS75 w w' g308 x309000_2 x309001_2 x309002_2 x309003_2 x309004_2 x309005_2 x309006_2 x309007_2 x309008_2 x309009_2 x309010_2 x309011_2 x309012_2 x309013_2 x309014_2) ∧ Aside0 (Below w.heap.size w w'))
     case atStart => exact ⟨(0), (0), (x309000_1), (x309001_1), (x309002_1), (x309003_1), (x309004_1), (x309005_1), (x309006_1), (x309007_1), (x309008_1), (x309009_1), (x309010_1), (x309011_1), (x309012_1), (x309013_1), (x309014_1), (by first | rfl | (simp; done) | (simp [*]; done)), (by first | rfl | (simp; done) | (simp [*]; done)), H', ⟨Nat.le_refl _⟩, ⟨by repeat (first | (with_reducible first | exact HI308.out | apply IsS75.alloc | apply IsS75.drewN | apply IsS75.drew | apply IsS75.set_0 | apply IsS75.set_1 | apply IsS75.set_2 | apply IsS75.set_3 | apply IsS75.set_4 | apply IsS75.set_5 | apply IsS75.set_6 | apply IsS75.set_7 | apply IsS75.set_8 | apply IsS75.set_9 | apply IsS75.set_10 | apply IsS75.set_11 | apply IsS75.set_12 | apply IsS75.set_13 | apply IsS75.set_14) | exact HI308.out)⟩, ⟨by repeat (first | (with_reducible first | exact HB.out | apply below_alloc | apply pw_below_drewN | apply below_drew1 | refine below_set ?_ (IsS75.ge HI308.out)) | exact HB.out)⟩⟩
     case round =>
      clear H'
      try clear c1
      try clear c2
      try clear p2
      try clear c6
      try clear c6b0
      try clear c6b1
      try clear p6
      try clear c7
      try clear c11
      try clear c11b0
      try clear c11b1
      try clear c13
      try clear p2
      try clear p6
      obtain ⟨x15_2, x16_2, x309000_2, x309001_2, x309002_2, x309003_2, x309004_2, x309005_2, x309006_2, x309007_2, x309008_2, x309009_2, x309010_2, x309011_2, x309012_2, x309013_2, x309014_2, rfl, rfl, HA, HK2, HI308, HB⟩ := hrel
      cases gk with
      | zero => exact absurd HA.out (by simp [flywheellaw26_ProbeFinds.l1])
      | succ k2 =>
       have H := HA.out
       clear HA
       simp only [flywheellaw26_ProbeFinds.l1] at H
       by_cases c18 : x16_2 < x11_1
       ·rw [if_pos c18] at H
        have c18b0 : decide (x16_2 < x11_1) = true := decide_eq_true c18
        clear c18
        replace H := Option.bind_eq_some_iff.mp H
        obtain ⟨⟨t377, t378, t379, t380, t381, t382, t383, t384, t385, t386, t387, t388, t389, t390, t391, t392⟩, A190, H⟩ := H
        replace H : (flywheellaw26_ProbeFinds.l1 k2 (wrap64 (200 + (Int.tmod (wrap64 (a0)) 1301))) (wrap64 (1 + (Int.tmod (wrap64 (a1)) 5000))) (Int.tmod (wrap64 (a2)) 5000) x11_1 t377 (wrap64 (x16_2 + 1)) t378 t379 t380 t381 t382 t383 t384 t385 t386 t387 t388 t389 t390 t391 t392) = some r := H
        have A19 := Aside0.mk A190
        clear A190
        have H' := Aside0.mk H
        clear H
        go_wp2_with (first | ((with_reducible refine gate_callee (f := 25) rfl ?_); refine goesL_ (some 72) rfl rfl Try.func25 (by kernel_rfl) rfl #[.pointer (some ⟨g308, 0, none⟩), .int .i64 1, .int .i64 (wrap64 (200 + (Int.tmod (wrap64 (a0)) 1301))), .int .i64 (wrap64 (x16_2 * (wrap64 (1 + (Int.tmod (wrap64 (a1)) 5000))))), .int .i64 (wrap64 (7 + (wrap64 (x16_2 * (wrap64 ((wrap64 (1 + (Int.tmod (wrap64 (a1)) 5000))) + (Int.tmod (wrap64 (a2)) 5000)))))))] rfl (by (try simp only [List.map_toArray, List.map_cons, List.map_nil]); first | done | rfl | (simp only [List.length_drop, List.length_take]; rfl)) ?_; (with_reducible refine (probe_Probe_Got.calls k2 g308 x309000_2 x309001_2 x309002_2 x309003_2 x309004_2 x309005_2 x309006_2 x309007_2 x309008_2 x309009_2 x309010_2 x309011_2 x309012_2 x309013_2 x309014_2 1 (wrap64 (200 + (Int.tmod (wrap64 (a0)) 1301))) (wrap64 (x16_2 * (wrap64 (1 + (Int.tmod (wrap64 (a1)) 5000))))) (wrap64 (7 + (wrap64 (x16_2 * (wrap64 ((wrap64 (1 + (Int.tmod (wrap64 (a1)) 5000))) + (Int.tmod (wrap64 (a2)) 5000))))))) t377 t378 t379 t380 t381 t382 t383 t384 t385 t386 t387 t388 t389 t390 t391 t392 w _ ?side1 ?side2 A19.out).mono ?_); (case side1 => repeat (first | (with_reducible first | exact HI308.out | apply IsS75.alloc | apply IsS75.drewN | apply IsS75.drew | apply IsS75.set_0 | apply IsS75.set_1 | apply IsS75.set_2 | apply IsS75.set_3 | apply IsS75.set_4 | apply IsS75.set_5 | apply IsS75.set_6 | apply IsS75.set_7 | apply IsS75.set_8 | apply IsS75.set_9 | apply IsS75.set_10 | apply IsS75.set_11 | apply IsS75.set_12 | apply IsS75.set_13 | apply IsS75.set_14) | exact HI308.out)); (case side2 => repeat (first | (with_reducible first | exact HB.out | apply below_alloc | apply pw_below_drewN | apply below_drew1 | refine below_set ?_ (IsS75.ge HI308.out)) | exact HB.out)); rintro e w20 ⟨rfl, hi, hb, hk⟩; refine ⟨_, rfl, ?_⟩; have n0_ := Aside0.mk (hb); have n1_ := Aside0.mk (hi); clear HB; clear HI308; have HB := n0_; have HI308 := n1_; clear n0_ n1_; (try clear hb); (try clear hb2); (try clear hk); (try clear hi)))
        go_roundg k2
        case measure => have := HK1.out; have := HK2.out; omega
        case rel => exact ⟨(t377), (wrap64 (x16_2 + 1)), (t378), (t379), (t380), (t381), (t382), (t383), (t384), (t385), (t386), (t387), (t388), (t389), (t390), (t391), (t392), (by first | rfl | (simp; done) | (simp [*]; done)), (by first | rfl | (simp; done) | (simp [*]; done)), H', ⟨by have := HK1.out; have := HK2.out; omega⟩, ⟨by repeat (first | (with_reducible first | exact HI308.out | apply IsS75.alloc | apply IsS75.drewN | apply IsS75.drew | apply IsS75.set_0 | apply IsS75.set_1 | apply IsS75.set_2 | apply IsS75.set_3 | apply IsS75.set_4 | apply IsS75.set_5 | apply IsS75.set_6 | apply IsS75.set_7 | apply IsS75.set_8 | apply IsS75.set_9 | apply IsS75.set_10 | apply IsS75.set_11 | apply IsS75.set_12 | apply IsS75.set_13 | apply IsS75.set_14) | exact HI308.out)⟩, ⟨by repeat (first | (with_reducible first | exact HB.out | apply below_alloc | apply pw_below_drewN | apply below_drew1 | refine below_set ?_ (IsS75.ge HI308.out)) | exact HB.out)⟩⟩
       ·rw [if_neg c18] at H
        have c18b0 : decide (x16_2 < x11_1) = false := decide_eq_false c18
        clear c18
        by_cases c21 : x11_1 < 4
        ·rw [if_pos c21] at H
         have c21b0 : decide (x11_1 < 4) = true := decide_eq_true c21
         clear c21
         by_cases c22 : x15_2 = 0
         ·rw [if_pos c22] at H
          have c22b0 : (x15_2 == 0) = true := beq_iff_eq.mpr c22
          have c22b1 : (x15_2 != 0) = false := bne_eq_false_iff_eq.mpr c22
          clear c22
          replace H := Option.bind_eq_some_iff.mp H
          obtain ⟨t393, A230, H⟩ := H
          replace H : (some t393) = some r := H
          have A23 := Aside0.mk A230
          clear A230
          obtain rfl := Option.some.inj H
          go_wp2_with (first | (go_at_call 26; (with_reducible refine (flywheellaw26_wakes.calls  t393 _ A23.out).mono ?_); rintro e w24 ⟨rfl, hb⟩; have n0_ := Aside0.mk (IsS75.below (by repeat (first | (with_reducible first | exact HI308.out | apply IsS75.alloc | apply IsS75.drewN | apply IsS75.drew | apply IsS75.set_0 | apply IsS75.set_1 | apply IsS75.set_2 | apply IsS75.set_3 | apply IsS75.set_4 | apply IsS75.set_5 | apply IsS75.set_6 | apply IsS75.set_7 | apply IsS75.set_8 | apply IsS75.set_9 | apply IsS75.set_10 | apply IsS75.set_11 | apply IsS75.set_12 | apply IsS75.set_13 | apply IsS75.set_14) | exact HI308.out)) hb); have n1_ := Aside0.mk (below_step (by repeat (first | (with_reducible first | exact HB.out | apply below_alloc | apply pw_below_drewN | apply below_drew1 | refine below_set ?_ (IsS75.ge HI308.out)) | exact HB.out)) hb); clear HI308; clear HB; have HI308 := n0_; have HB := n1_; clear n0_ n1_; (try clear hb); (try clear hb2); (try clear hk); (try clear hi)))
          go_ret
          exact ⟨by first | rfl | (simp [errW_none, errW_some] <;> rfl) | (simp [*, errW_none, errW_some] <;> rfl), by repeat (first | (with_reducible first | exact HB.out | apply below_alloc | apply pw_below_drewN | apply below_drew1 | refine below_set ?_ (IsS75.ge HI308.out)) | exact HB.out)⟩
         ·rw [if_neg c22] at H
          have c22b0 : (x15_2 == 0) = false := beq_eq_false_iff_ne.mpr c22
          have c22b1 : (x15_2 != 0) = true := bne_iff_ne.mpr c22
          obtain rfl := Option.some.inj H
          go_wp2
          go_ret
          exact ⟨by first | rfl | (simp [errW_none, errW_some] <;> rfl) | (simp [*, errW_none, errW_some] <;> rfl), by repeat (first | (with_reducible first | exact HB.out | apply below_alloc | apply pw_below_drewN | apply below_drew1 | refine below_set ?_ (IsS75.ge HI308.out)) | exact HB.out)⟩
        ·rw [if_neg c21] at H
         have c21b0 : decide (x11_1 < 4) = false := decide_eq_false c21
         clear c21
         replace H := Option.bind_eq_some_iff.mp H
         obtain ⟨t394, A250, H⟩ := H
         replace H : (if x15_2 = t394 then ((probe_Probe_Best.f x309000_2 x309001_2 x309002_2 x309003_2 x309004_2 x309005_2 x309006_2 x309007_2 x309008_2 x309009_2 x309010_2 x309011_2 x309012_2 x309013_2 x309014_2).bind fun bt395 => (if bt395.1 ≥ x15_2 then (if (wrap64 (200 + (Int.tmod (wrap64 (a0)) 1301))) = 0 then (none) else (if x11_1 = (wrap64 (Int.tdiv (wrap64 ((wrap64 (15000 + (wrap64 (200 + (Int.tmod (wrap64 (a0)) 1301))))) - 1)) (wrap64 (200 + (Int.tmod (wrap64 (a0)) 1301))))) then ((flywheellaw26_wakes.f).bind fun t411 => (some t411)) else (some false))) else (some false))) else (some false)) = some r := H
         have A25 := Aside0.mk A250
         clear A250
         by_cases c26 : x15_2 = t394
         ·rw [if_pos c26] at H
          have c26b0 : (x15_2 == t394) = true := beq_iff_eq.mpr c26
          have c26b1 : (x15_2 != t394) = false := bne_eq_false_iff_eq.mpr c26
          clear c26
          replace H := Option.bind_eq_some_iff.mp H
          obtain ⟨⟨t395, t396, t397, t398, t399, t400, t401, t402, t403, t404, t405, t406, t407, t408, t409, t410⟩, A270, H⟩ := H
          replace H : (if t395 ≥ x15_2 then (if (wrap64 (200 + (Int.tmod (wrap64 (a0)) 1301))) = 0 then (none) else (if x11_1 = (wrap64 (Int.tdiv (wrap64 ((wrap64 (15000 + (wrap64 (200 + (Int.tmod (wrap64 (a0)) 1301))))) - 1)) (wrap64 (200 + (Int.tmod (wrap64 (a0)) 1301))))) then ((flywheellaw26_wakes.f).bind fun t411 => (some t411)) else (some false))) else (some false)) = some r := H
          have A27 := Aside0.mk A270
          clear A270
          by_cases c28 : t395 ≥ x15_2
          ·rw [if_pos c28] at H
           have c28b0 : decide (x15_2 ≤ t395) = true := decide_eq_true c28
           clear c28
           by_cases c29 : (wrap64 (200 + (Int.tmod (wrap64 (a0)) 1301))) = 0
           ·rw [if_pos c29] at H
            exact absurd H (by simp)
           ·rw [if_neg c29] at H
            have c29b0 : ((wrap64 (200 + (Int.tmod (wrap64 (a0)) 1301))) == 0) = false := beq_eq_false_iff_ne.mpr c29
            have c29b1 : ((wrap64 (200 + (Int.tmod (wrap64 (a0)) 1301))) != 0) = true := bne_iff_ne.mpr c29
            by_cases c30 : x11_1 = (wrap64 (Int.tdiv (wrap64 ((wrap64 (15000 + (wrap64 (200 + (Int.tmod (wrap64 (a0)) 1301))))) - 1)) (wrap64 (200 + (Int.tmod (wrap64 (a0)) 1301)))))
            ·rw [if_pos c30] at H
             have c30b0 : (x11_1 == (wrap64 (Int.tdiv (wrap64 ((wrap64 (15000 + (wrap64 (200 + (Int.tmod (wrap64 (a0)) 1301))))) - 1)) (wrap64 (200 + (Int.tmod (wrap64 (a0)) 1301)))))) = true := beq_iff_eq.mpr c30
             have c30b1 : (x11_1 != (wrap64 (Int.tdiv (wrap64 ((wrap64 (15000 + (wrap64 (200 + (Int.tmod (wrap64 (a0)) 1301))))) - 1)) (wrap64 (200 + (Int.tmod (wrap64 (a0)) 1301)))))) = false := bne_eq_false_iff_eq.mpr c30
             clear c30
             replace H := Option.bind_eq_some_iff.mp H
             obtain ⟨t411, A310, H⟩ := H
             replace H : (some t411) = some r := H
             have A31 := Aside0.mk A310
             clear A310
             obtain rfl := Option.some.inj H
             go_wp2_with (first | ((with_reducible refine gate_callee (f := 35) rfl ?_); refine goesL_ (some 90) rfl rfl Try.func35 (by kernel_rfl) rfl #[.int .i64 (wrap64 ((wrap64 (x11_1 - 1)) * (wrap64 (200 + (Int.tmod (wrap64 (a0)) 1301))))), .int .i64 (wrap64 ((wrap64 (x11_1 - 1)) * (wrap64 ((wrap64 (1 + (Int.tmod (wrap64 (a1)) 5000))) + (Int.tmod (wrap64 (a2)) 5000)))))] rfl (by (try simp only [List.map_toArray, List.map_cons, List.map_nil]); first | done | rfl | (simp only [List.length_drop, List.length_take]; rfl)) ?_; (with_reducible refine (units_Rate.calls (wrap64 ((wrap64 (x11_1 - 1)) * (wrap64 (200 + (Int.tmod (wrap64 (a0)) 1301))))) (wrap64 ((wrap64 (x11_1 - 1)) * (wrap64 ((wrap64 (1 + (Int.tmod (wrap64 (a1)) 5000))) + (Int.tmod (wrap64 (a2)) 5000))))) t394 _ A25.out).mono ?_); rintro e w32 ⟨rfl, hb⟩; refine ⟨_, rfl, ?_⟩; have n0_ := Aside0.mk (IsS75.below (by repeat (first | (with_reducible first | exact HI308.out | apply IsS75.alloc | apply IsS75.drewN | apply IsS75.drew | apply IsS75.set_0 | apply IsS75.set_1 | apply IsS75.set_2 | apply IsS75.set_3 | apply IsS75.set_4 | apply IsS75.set_5 | apply IsS75.set_6 | apply IsS75.set_7 | apply IsS75.set_8 | apply IsS75.set_9 | apply IsS75.set_10 | apply IsS75.set_11 | apply IsS75.set_12 | apply IsS75.set_13 | apply IsS75.set_14) | exact HI308.out)) hb); have n1_ := Aside0.mk (below_step (by repeat (first | (with_reducible first | exact HB.out | apply below_alloc | apply pw_below_drewN | apply below_drew1 | refine below_set ?_ (IsS75.ge HI308.out)) | exact HB.out)) hb); clear HI308; clear HB; have HI308 := n0_; have HB := n1_; clear n0_ n1_; (try clear hb); (try clear hb2); (try clear hk); (try clear hi)) | (go_at_call 33; (with_reducible refine (probe_Probe_Best.calls g308 x309000_2 x309001_2 x309002_2 x309003_2 x309004_2 x309005_2 x309006_2 x309007_2 x309008_2 x309009_2 x309010_2 x309011_2 x309012_2 x309013_2 x309014_2 t395 t396 t397 t398 t399 t400 t401 t402 t403 t404 t405 t406 t407 t408 t409 t410 w _ ?side1 ?side2 A27.out).mono ?_); (case side1 => repeat (first | (with_reducible first | exact HI308.out | apply IsS75.alloc | apply IsS75.drewN | apply IsS75.drew | apply IsS75.set_0 | apply IsS75.set_1 | apply IsS75.set_2 | apply IsS75.set_3 | apply IsS75.set_4 | apply IsS75.set_5 | apply IsS75.set_6 | apply IsS75.set_7 | apply IsS75.set_8 | apply IsS75.set_9 | apply IsS75.set_10 | apply IsS75.set_11 | apply IsS75.set_12 | apply IsS75.set_13 | apply IsS75.set_14) | exact HI308.out)); (case side2 => repeat (first | (with_reducible first | exact HB.out | apply below_alloc | apply pw_below_drewN | apply below_drew1 | refine below_set ?_ (IsS75.ge HI308.out)) | exact HB.out)); rintro e w33 ⟨rfl, hi, hb, hk⟩; have n0_ := Aside0.mk (hb); have n1_ := Aside0.mk (hi); clear HB; clear HI308; have HB := n0_; have HI308 := n1_; clear n0_ n1_; (try clear hb); (try clear hb2); (try clear hk); (try clear hi)) | (go_at_call 26; (with_reducible refine (flywheellaw26_wakes.calls  t411 _ A31.out).mono ?_); rintro e w34 ⟨rfl, hb⟩; have n0_ := Aside0.mk (IsS75.below (by repeat (first | (with_reducible first | exact HI308.out | apply IsS75.alloc | apply IsS75.drewN | apply IsS75.drew | apply IsS75.set_0 | apply IsS75.set_1 | apply IsS75.set_2 | apply IsS75.set_3 | apply IsS75.set_4 | apply IsS75.set_5 | apply IsS75.set_6 | apply IsS75.set_7 | apply IsS75.set_8 | apply IsS75.set_9 | apply IsS75.set_10 | apply IsS75.set_11 | apply IsS75.set_12 | apply IsS75.set_13 | apply IsS75.set_14) | exact HI308.out)) hb); have n1_ := Aside0.mk (below_step (by repeat (first | (with_reducible first | exact HB.out | apply below_alloc | apply pw_below_drewN | apply below_drew1 | refine below_set ?_ (IsS75.ge HI308.out)) | exact HB.out)) hb); clear HI308; clear HB; have HI308 := n0_; have HB := n1_; clear n0_ n1_; (try clear hb); (try clear hb2); (try clear hk); (try clear hi)))
             go_ret
             exact ⟨by first | rfl | (simp [errW_none, errW_some] <;> rfl) | (simp [*, errW_none, errW_some] <;> rfl), by repeat (first | (with_reducible first | exact HB.out | apply below_alloc | apply pw_below_drewN | apply below_drew1 | refine below_set ?_ (IsS75.ge HI308.out)) | exact HB.out)⟩
            ·rw [if_neg c30] at H
             have c30b0 : (x11_1 == (wrap64 (Int.tdiv (wrap64 ((wrap64 (15000 + (wrap64 (200 + (Int.tmod (wrap64 (a0)) 1301))))) - 1)) (wrap64 (200 + (Int.tmod (wrap64 (a0)) 1301)))))) = false := beq_eq_false_iff_ne.mpr c30
             have c30b1 : (x11_1 != (wrap64 (Int.tdiv (wrap64 ((wrap64 (15000 + (wrap64 (200 + (Int.tmod (wrap64 (a0)) 1301))))) - 1)) (wrap64 (200 + (Int.tmod (wrap64 (a0)) 1301)))))) = true := bne_iff_ne.mpr c30
             obtain rfl := Option.some.inj H
             go_wp2_with (first | ((with_reducible refine gate_callee (f := 35) rfl ?_); refine goesL_ (some 90) rfl rfl Try.func35 (by kernel_rfl) rfl #[.int .i64 (wrap64 ((wrap64 (x11_1 - 1)) * (wrap64 (200 + (Int.tmod (wrap64 (a0)) 1301))))), .int .i64 (wrap64 ((wrap64 (x11_1 - 1)) * (wrap64 ((wrap64 (1 + (Int.tmod (wrap64 (a1)) 5000))) + (Int.tmod (wrap64 (a2)) 5000)))))] rfl (by (try simp only [List.map_toArray, List.map_cons, List.map_nil]); first | done | rfl | (simp only [List.length_drop, List.length_take]; rfl)) ?_; (with_reducible refine (units_Rate.calls (wrap64 ((wrap64 (x11_1 - 1)) * (wrap64 (200 + (Int.tmod (wrap64 (a0)) 1301))))) (wrap64 ((wrap64 (x11_1 - 1)) * (wrap64 ((wrap64 (1 + (Int.tmod (wrap64 (a1)) 5000))) + (Int.tmod (wrap64 (a2)) 5000))))) t394 _ A25.out).mono ?_); rintro e w35 ⟨rfl, hb⟩; refine ⟨_, rfl, ?_⟩; have n0_ := Aside0.mk (IsS75.below (by repeat (first | (with_reducible first | exact HI308.out | apply IsS75.alloc | apply IsS75.drewN | apply IsS75.drew | apply IsS75.set_0 | apply IsS75.set_1 | apply IsS75.set_2 | apply IsS75.set_3 | apply IsS75.set_4 | apply IsS75.set_5 | apply IsS75.set_6 | apply IsS75.set_7 | apply IsS75.set_8 | apply IsS75.set_9 | apply IsS75.set_10 | apply IsS75.set_11 | apply IsS75.set_12 | apply IsS75.set_13 | apply IsS75.set_14) | exact HI308.out)) hb); have n1_ := Aside0.mk (below_step (by repeat (first | (with_reducible first | exact HB.out | apply below_alloc | apply pw_below_drewN | apply below_drew1 | refine below_set ?_ (IsS75.ge HI308.out)) | exact HB.out)) hb); clear HI308; clear HB; have HI308 := n0_; have HB := n1_; clear n0_ n1_; (try clear hb); (try clear hb2); (try clear hk); (try clear hi)) | (go_at_call 33; (with_reducible refine (probe_Probe_Best.calls g308 x309000_2 x309001_2 x309002_2 x309003_2 x309004_2 x309005_2 x309006_2 x309007_2 x309008_2 x309009_2 x309010_2 x309011_2 x309012_2 x309013_2 x309014_2 t395 t396 t397 t398 t399 t400 t401 t402 t403 t404 t405 t406 t407 t408 t409 t410 w _ ?side1 ?side2 A27.out).mono ?_); (case side1 => repeat (first | (with_reducible first | exact HI308.out | apply IsS75.alloc | apply IsS75.drewN | apply IsS75.drew | apply IsS75.set_0 | apply IsS75.set_1 | apply IsS75.set_2 | apply IsS75.set_3 | apply IsS75.set_4 | apply IsS75.set_5 | apply IsS75.set_6 | apply IsS75.set_7 | apply IsS75.set_8 | apply IsS75.set_9 | apply IsS75.set_10 | apply IsS75.set_11 | apply IsS75.set_12 | apply IsS75.set_13 | apply IsS75.set_14) | exact HI308.out)); (case side2 => repeat (first | (with_reducible first | exact HB.out | apply below_alloc | apply pw_below_drewN | apply below_drew1 | refine below_set ?_ (IsS75.ge HI308.out)) | exact HB.out)); rintro e w36 ⟨rfl, hi, hb, hk⟩; have n0_ := Aside0.mk (hb); have n1_ := Aside0.mk (hi); clear HB; clear HI308; have HB := n0_; have HI308 := n1_; clear n0_ n1_; (try clear hb); (try clear hb2); (try clear hk); (try clear hi)))
             go_ret
             exact ⟨by first | rfl | (simp [errW_none, errW_some] <;> rfl) | (simp [*, errW_none, errW_some] <;> rfl), by repeat (first | (with_reducible first | exact HB.out | apply below_alloc | apply pw_below_drewN | apply below_drew1 | refine below_set ?_ (IsS75.ge HI308.out)) | exact HB.out)⟩
          ·rw [if_neg c28] at H
           have c28b0 : decide (x15_2 ≤ t395) = false := decide_eq_false c28
           clear c28
           obtain rfl := Option.some.inj H
           go_wp2_with (first | ((with_reducible refine gate_callee (f := 35) rfl ?_); refine goesL_ (some 90) rfl rfl Try.func35 (by kernel_rfl) rfl #[.int .i64 (wrap64 ((wrap64 (x11_1 - 1)) * (wrap64 (200 + (Int.tmod (wrap64 (a0)) 1301))))), .int .i64 (wrap64 ((wrap64 (x11_1 - 1)) * (wrap64 ((wrap64 (1 + (Int.tmod (wrap64 (a1)) 5000))) + (Int.tmod (wrap64 (a2)) 5000)))))] rfl (by (try simp only [List.map_toArray, List.map_cons, List.map_nil]); first | done | rfl | (simp only [List.length_drop, List.length_take]; rfl)) ?_; (with_reducible refine (units_Rate.calls (wrap64 ((wrap64 (x11_1 - 1)) * (wrap64 (200 + (Int.tmod (wrap64 (a0)) 1301))))) (wrap64 ((wrap64 (x11_1 - 1)) * (wrap64 ((wrap64 (1 + (Int.tmod (wrap64 (a1)) 5000))) + (Int.tmod (wrap64 (a2)) 5000))))) t394 _ A25.out).mono ?_); rintro e w37 ⟨rfl, hb⟩; refine ⟨_, rfl, ?_⟩; have n0_ := Aside0.mk (IsS75.below (by repeat (first | (with_reducible first | exact HI308.out | apply IsS75.alloc | apply IsS75.drewN | apply IsS75.drew | apply IsS75.set_0 | apply IsS75.set_1 | apply IsS75.set_2 | apply IsS75.set_3 | apply IsS75.set_4 | apply IsS75.set_5 | apply IsS75.set_6 | apply IsS75.set_7 | apply IsS75.set_8 | apply IsS75.set_9 | apply IsS75.set_10 | apply IsS75.set_11 | apply IsS75.set_12 | apply IsS75.set_13 | apply IsS75.set_14) | exact HI308.out)) hb); have n1_ := Aside0.mk (below_step (by repeat (first | (with_reducible first | exact HB.out | apply below_alloc | apply pw_below_drewN | apply below_drew1 | refine below_set ?_ (IsS75.ge HI308.out)) | exact HB.out)) hb); clear HI308; clear HB; have HI308 := n0_; have HB := n1_; clear n0_ n1_; (try clear hb); (try clear hb2); (try clear hk); (try clear hi)) | (go_at_call 33; (with_reducible refine (probe_Probe_Best.calls g308 x309000_2 x309001_2 x309002_2 x309003_2 x309004_2 x309005_2 x309006_2 x309007_2 x309008_2 x309009_2 x309010_2 x309011_2 x309012_2 x309013_2 x309014_2 t395 t396 t397 t398 t399 t400 t401 t402 t403 t404 t405 t406 t407 t408 t409 t410 w _ ?side1 ?side2 A27.out).mono ?_); (case side1 => repeat (first | (with_reducible first | exact HI308.out | apply IsS75.alloc | apply IsS75.drewN | apply IsS75.drew | apply IsS75.set_0 | apply IsS75.set_1 | apply IsS75.set_2 | apply IsS75.set_3 | apply IsS75.set_4 | apply IsS75.set_5 | apply IsS75.set_6 | apply IsS75.set_7 | apply IsS75.set_8 | apply IsS75.set_9 | apply IsS75.set_10 | apply IsS75.set_11 | apply IsS75.set_12 | apply IsS75.set_13 | apply IsS75.set_14) | exact HI308.out)); (case side2 => repeat (first | (with_reducible first | exact HB.out | apply below_alloc | apply pw_below_drewN | apply below_drew1 | refine below_set ?_ (IsS75.ge HI308.out)) | exact HB.out)); rintro e w38 ⟨rfl, hi, hb, hk⟩; have n0_ := Aside0.mk (hb); have n1_ := Aside0.mk (hi); clear HB; clear HI308; have HB := n0_; have HI308 := n1_; clear n0_ n1_; (try clear hb); (try clear hb2); (try clear hk); (try clear hi)))
           go_ret
           exact ⟨by first | rfl | (simp [errW_none, errW_some] <;> rfl) | (simp [*, errW_none, errW_some] <;> rfl), by repeat (first | (with_reducible first | exact HB.out | apply below_alloc | apply pw_below_drewN | apply below_drew1 | refine below_set ?_ (IsS75.ge HI308.out)) | exact HB.out)⟩
         ·rw [if_neg c26] at H
          have c26b0 : (x15_2 == t394) = false := beq_eq_false_iff_ne.mpr c26
          have c26b1 : (x15_2 != t394) = true := bne_iff_ne.mpr c26
          obtain rfl := Option.some.inj H
          go_wp2_with (first | ((with_reducible refine gate_callee (f := 35) rfl ?_); refine goesL_ (some 90) rfl rfl Try.func35 (by kernel_rfl) rfl #[.int .i64 (wrap64 ((wrap64 (x11_1 - 1)) * (wrap64 (200 + (Int.tmod (wrap64 (a0)) 1301))))), .int .i64 (wrap64 ((wrap64 (x11_1 - 1)) * (wrap64 ((wrap64 (1 + (Int.tmod (wrap64 (a1)) 5000))) + (Int.tmod (wrap64 (a2)) 5000)))))] rfl (by (try simp only [List.map_toArray, List.map_cons, List.map_nil]); first | done | rfl | (simp only [List.length_drop, List.length_take]; rfl)) ?_; (with_reducible refine (units_Rate.calls (wrap64 ((wrap64 (x11_1 - 1)) * (wrap64 (200 + (Int.tmod (wrap64 (a0)) 1301))))) (wrap64 ((wrap64 (x11_1 - 1)) * (wrap64 ((wrap64 (1 + (Int.tmod (wrap64 (a1)) 5000))) + (Int.tmod (wrap64 (a2)) 5000))))) t394 _ A25.out).mono ?_); rintro e w39 ⟨rfl, hb⟩; refine ⟨_, rfl, ?_⟩; have n0_ := Aside0.mk (IsS75.below (by repeat (first | (with_reducible first | exact HI308.out | apply IsS75.alloc | apply IsS75.drewN | apply IsS75.drew | apply IsS75.set_0 | apply IsS75.set_1 | apply IsS75.set_2 | apply IsS75.set_3 | apply IsS75.set_4 | apply IsS75.set_5 | apply IsS75.set_6 | apply IsS75.set_7 | apply IsS75.set_8 | apply IsS75.set_9 | apply IsS75.set_10 | apply IsS75.set_11 | apply IsS75.set_12 | apply IsS75.set_13 | apply IsS75.set_14) | exact HI308.out)) hb); have n1_ := Aside0.mk (below_step (by repeat (first | (with_reducible first | exact HB.out | apply below_alloc | apply pw_below_drewN | apply below_drew1 | refine below_set ?_ (IsS75.ge HI308.out)) | exact HB.out)) hb); clear HI308; clear HB; have HI308 := n0_; have HB := n1_; clear n0_ n1_; (try clear hb); (try clear hb2); (try clear hk); (try clear hi)))
          go_ret
          exact ⟨by first | rfl | (simp [errW_none, errW_some] <;> rfl) | (simp [*, errW_none, errW_some] <;> rfl), by repeat (first | (with_reducible first | exact HB.out | apply below_alloc | apply pw_below_drewN | apply below_drew1 | refine below_set ?_ (IsS75.ge HI308.out)) | exact HB.out)⟩
 ·rw [if_neg c6] at H
  have c6b0 : (t309 == 1) = false := beq_eq_false_iff_ne.mpr c6
  have c6b1 : (t309 != 1) = true := bne_iff_ne.mpr c6
  obtain rfl := Option.some.inj H
  go_enter Try.func7, Try.ntmps7
  go_wp2_with (first | ((with_reducible refine gate_callee (f := 21) rfl ?_); refine goesL_ (some 18) rfl rfl Try.func21 (by kernel_rfl) rfl #[] rfl (by (try simp only [List.map_toArray, List.map_cons, List.map_nil]); first | done | rfl | (simp only [List.length_drop, List.length_take]; rfl)) ?_; (with_reducible refine (probe_New.calls  t293 t294 t295 t296 t297 t298 t299 t300 t301 t302 t303 t304 t305 t306 t307 _ _ (Below.refl _ _) A4.out).mono ?_); rintro e w40 ⟨g308, rfl, hi, hb, hb2⟩; refine ⟨_, rfl, ?_⟩; have n0_ := Aside0.mk (below_step (by repeat (first | (with_reducible first | exact HB.out | apply below_alloc | apply pw_below_drewN | apply below_drew1) | exact HB.out)) hb2); have n1_ := Aside0.mk ((IsS75.rebase hi (below_size (by repeat (first | (with_reducible first | exact HB.out | apply below_alloc | apply pw_below_drewN | apply below_drew1) | exact HB.out))))); clear HB; have HB := n0_; have HI308 := n1_; clear n0_ n1_; (try clear hb); (try clear hb2); (try clear hk); (try clear hi)) | ((with_reducible refine gate_callee (f := 23) rfl ?_); refine goesL_ (some 31) rfl rfl Try.func23 (by kernel_rfl) rfl #[.pointer (some ⟨g308, 0, none⟩), .int .i64 8000000] rfl (by (try simp only [List.map_toArray, List.map_cons, List.map_nil]); first | done | rfl | (simp only [List.length_drop, List.length_take]; rfl)) ?_; (with_reducible refine (probe_Probe_Start.calls g308 t293 t294 t295 t296 t297 t298 t299 t300 t301 t302 t303 t304 t305 t306 t307 8000000 t309 t310 t311 t312 t313 t314 t315 t316 t317 t318 t319 t320 t321 t322 t323 t324 w _ ?side1 ?side2 A5.out).mono ?_); (case side1 => repeat (first | (with_reducible first | exact HI308.out | apply IsS75.alloc | apply IsS75.drewN | apply IsS75.drew | apply IsS75.set_0 | apply IsS75.set_1 | apply IsS75.set_2 | apply IsS75.set_3 | apply IsS75.set_4 | apply IsS75.set_5 | apply IsS75.set_6 | apply IsS75.set_7 | apply IsS75.set_8 | apply IsS75.set_9 | apply IsS75.set_10 | apply IsS75.set_11 | apply IsS75.set_12 | apply IsS75.set_13 | apply IsS75.set_14) | exact HI308.out)); (case side2 => repeat (first | (with_reducible first | exact HB.out | apply below_alloc | apply pw_below_drewN | apply below_drew1 | refine below_set ?_ (IsS75.ge HI308.out)) | exact HB.out)); rintro e w41 ⟨rfl, hi, hb, hk⟩; refine ⟨_, rfl, ?_⟩; have n0_ := Aside0.mk (hb); have n1_ := Aside0.mk (hi); clear HB; clear HI308; have HB := n0_; have HI308 := n1_; clear n0_ n1_; (try clear hb); (try clear hb2); (try clear hk); (try clear hi)))
  go_ret
  exact ⟨by first | rfl | (simp [errW_none, errW_some] <;> rfl) | (simp [*, errW_none, errW_some] <;> rfl), by repeat (first | (with_reducible first | exact HB.out | apply below_alloc | apply pw_below_drewN | apply below_drew1 | refine below_set ?_ (IsS75.ge HI308.out)) | exact HB.out)⟩
def flywheellaw26_ProbeFinds.Pure : Prop := ∀ (a0 : Int) (a1 : Int) (a2 : Int), (Lit.int .u16 a0).wf = true → (Lit.int .u16 a1).wf = true → (Lit.int .u16 a2).wf = true → ∃ k, flywheellaw26_ProbeFinds.f k a0 a1 a2 = some true
theorem flywheellaw26_ProbeFinds.walk (P : flywheellaw26_ProbeFinds.Pure) (a0 : Int) (a1 : Int) (a2 : Int) (w : World) (w0 : (Lit.int .u16 a0).wf = true) (w1 : (Lit.int .u16 a1).wf = true) (w2 : (Lit.int .u16 a2).wf = true) :
  Calls Try.prog 7 #[.int .u16 a0, .int .u16 a1, .int .u16 a2] w fun e w' => e = .returned (.bool true) ∧ Below w.heap.size w w' := by
 obtain ⟨k, h⟩ := P a0 a1 a2 w0 w1 w2
 refine (flywheellaw26_ProbeFinds.calls k a0 a1 a2 true w h).mono ?_
 rintro e w' ⟨rfl, hd⟩
 exact ⟨rfl, hd⟩
end Go.Proofs.Ytlgfnclgkhfhpaa.P
end

section
namespace Go.Proofs.Ytlgfnclgkhfhpaa.P
open Go.RowKit Go.Proofs.YtlgfnclgkhfhpaaW.PrintWords Go.Proofs.YtlgfnclgkhfhpaaW.PrintLast Go.Proofs.YtlgfnclgkhfhpaaW.PrintMore
attribute [local go_sem] max2_int min2_int max_two min_two max_three min_three max_four min_four   -- for this text's walks alone
set_option linter.unusedVariables false
set_option linter.unusedSimpArgs false
end Go.Proofs.Ytlgfnclgkhfhpaa.P
end

section
namespace Go.Proofs.Ytlgfnclgkhfhpaa.P
open Go.RowKit Go.Proofs.YtlgfnclgkhfhpaaW.PrintWords Go.Proofs.YtlgfnclgkhfhpaaW.PrintLast Go.Proofs.YtlgfnclgkhfhpaaW.PrintMore
attribute [local go_sem] max2_int min2_int max_two min_two max_three min_three max_four min_four   -- for this text's walks alone
set_option linter.unusedVariables false
set_option linter.unusedSimpArgs false
end Go.Proofs.Ytlgfnclgkhfhpaa.P
end

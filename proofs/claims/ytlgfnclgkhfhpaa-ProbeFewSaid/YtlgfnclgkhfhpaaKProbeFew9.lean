-- PUT TOGETHER by a program of this session: of the claim's texts, what is used
import Derived.Test.YtlgfnclgkhfhpaaKProbeFew7
import Derived.Test.YtlgfnclgkhfhpaaKProbeFew8
section
namespace Go.Proofs.Ytlgfnclgkhfhpaa.P
open Go.RowKit Go.Proofs.YtlgfnclgkhfhpaaW.PrintWords Go.Proofs.YtlgfnclgkhfhpaaW.PrintLast Go.Proofs.YtlgfnclgkhfhpaaW.PrintMore
attribute [local go_sem] max2_int min2_int max_two min_two max_three min_three max_four min_four   -- for this text's walks alone
set_option linter.unusedVariables false
set_option linter.unusedSimpArgs false
def probe_Probe_Sent.f (s0_0 : Int) (s0_1 : Int) (s0_2 : Int) (s0_3 : Int) (s0_4 : Int) (s0_5 : Int) (s0_6 : Int) (s0_7 : Int) (s0_8 : Int) (s0_9 : Int) (s0_10 : Int) (s0_11 : Int) (s0_12 : Int) (s0_13 : Int) (s0_14 : Int) (a1 : Int) (a2 : Int) (a3 : Int) : Option (Bool × Int × Int × Int × Int × Int × Int × Int × Int × Int × Int × Int × Int × Int × Int × Int) := if a1 = 0 then some (false, s0_0, s0_1, s0_2, s0_3, s0_4, s0_5, s0_6, s0_7, s0_8, s0_9, s0_10, s0_11, s0_12, s0_13, s0_14) else (if a1 = s0_1 then ((probe_good.f a2 a3).bind fun t => (if t = true then (if s0_3 = 1 ∧ s0_1 = 1 then (some (wrap64 (s0_6 - a2))).bind fun l => some (true, s0_0, (if l ≤ 0 then 0 else s0_1), s0_2, s0_3, s0_4, s0_5, l, s0_7, s0_8, s0_9, s0_10, s0_11, s0_12, s0_13, s0_14) else none) else some (false, s0_0, s0_1, s0_2, s0_3, s0_4, s0_5, s0_6, s0_7, s0_8, s0_9, s0_10, s0_11, s0_12, s0_13, s0_14))) else some (false, s0_0, s0_1, s0_2, s0_3, s0_4, s0_5, s0_6, s0_7, s0_8, s0_9, s0_10, s0_11, s0_12, s0_13, s0_14))
set_option maxHeartbeats 16000000 in
set_option maxRecDepth 100000 in
theorem probe_Probe_Sent.calls (g : Nat) (s0_0 : Int) (s0_1 : Int) (s0_2 : Int) (s0_3 : Int) (s0_4 : Int) (s0_5 : Int) (s0_6 : Int) (s0_7 : Int) (s0_8 : Int) (s0_9 : Int) (s0_10 : Int) (s0_11 : Int) (s0_12 : Int) (s0_13 : Int) (s0_14 : Int) (a1 : Int) (a2 : Int) (a3 : Int) (r1 : Bool) (r2 : Int) (r3 : Int) (r4 : Int) (r5 : Int) (r6 : Int) (r7 : Int) (r8 : Int) (r9 : Int) (r10 : Int) (r11 : Int) (r12 : Int) (r13 : Int) (r14 : Int) (r15 : Int) (r16 : Int) (w0 w : World) (hI : IsS75 w0 w g s0_0 s0_1 s0_2 s0_3 s0_4 s0_5 s0_6 s0_7 s0_8 s0_9 s0_10 s0_11 s0_12 s0_13 s0_14) (hB : Below w0.heap.size w0 w) (h : probe_Probe_Sent.f s0_0 s0_1 s0_2 s0_3 s0_4 s0_5 s0_6 s0_7 s0_8 s0_9 s0_10 s0_11 s0_12 s0_13 s0_14 a1 a2 a3 = some (r1, r2, r3, r4, r5, r6, r7, r8, r9, r10, r11, r12, r13, r14, r15, r16)) :
  Calls Try.prog 29 #[.pointer (some ⟨g, 0, none⟩), .int .i64 a1, .int .i64 a2, .int .i64 a3] w fun e w' => e = .returned (.bool r1) ∧ IsS75 w0 w' g r2 r3 r4 r5 r6 r7 r8 r9 r10 r11 r12 r13 r14 r15 r16 ∧ Below w0.heap.size w0 w' ∧ KeepT w w' := by
 have hpn35_eql : ∀ (a_ : Addr) (W_ : World), (Go.binOp .eql 35 (.pointer (some a_)) (.pointer none)).run Try.prog W_ = .ok (.bool false) W_ := fun _ _ => by kernel_rfl
 simp only [probe_Probe_Sent.f] at h
 by_cases c1 : a1 = 0
 ·rw [if_pos c1] at h
  simp only [Option.some.injEq, Prod.mk.injEq] at h
  obtain ⟨rfl, rfl, rfl, rfl, rfl, rfl, rfl, rfl, rfl, rfl, rfl, rfl, rfl, rfl, rfl, rfl⟩ := h
  have c1b : (a1 == 0) = true := beq_iff_eq.mpr c1
  clear c1
  rcases hI with ⟨e3, m, h0⟩ | ⟨e3, m, c, h0⟩
  ·have HG := Aside0.mk h0.1
   have HS : Aside0 (IsS75 w0 w g s0_0 s0_1 s0_2 s0_3 s0_4 s0_5 s0_6 s0_7 s0_8 s0_9 s0_10 s0_11 s0_12 s0_13 s0_14) := ⟨.inl ⟨e3, m, h0⟩⟩
   clear h0 e3
   have HB := Aside0.mk hB
   clear hB
   have hg_0 := (blk_cell HG.out 0).trans rfl
   have hg_1 := (blk_cell HG.out 1).trans rfl
   have hg_2 := (blk_cell HG.out 2).trans rfl
   have hg_3 := (blk_cell HG.out 3).trans rfl
   have hfg_0 := blk_frozen HG.out 0
   have hfg_1 := blk_frozen HG.out 1
   have hfg_2 := blk_frozen HG.out 2
   have hfg_3 := blk_frozen HG.out 3
   go_enter Try.func29, Try.ntmps29
   go_wp2
   go_ret
   exact ⟨rfl, by repeat (first | exact HS.out | apply IsS75.alloc | apply IsS75.drewN | apply IsS75.drew), by repeat (first | exact HB.out | apply below_alloc | apply pw_below_drewN | apply below_drew1), by repeat (first | exact KeepT.refl _ | refine KeepT.below ?_ (below_drew (Below.refl _ _)) | refine KeepT.below ?_ (pw_below_drewN (Below.refl _ _) _))⟩
  ·have HG := Aside0.mk h0.1
   have HS : Aside0 (IsS75 w0 w g s0_0 s0_1 s0_2 s0_3 s0_4 s0_5 s0_6 s0_7 s0_8 s0_9 s0_10 s0_11 s0_12 s0_13 s0_14) := ⟨.inr ⟨e3, m, c, h0⟩⟩
   clear h0 e3
   have HB := Aside0.mk hB
   clear hB
   have hg_0 := (blk_cell HG.out 0).trans rfl
   have hg_1 := (blk_cell HG.out 1).trans rfl
   have hg_2 := (blk_cell HG.out 2).trans rfl
   have hg_3 := (blk_cell HG.out 3).trans rfl
   have hfg_0 := blk_frozen HG.out 0
   have hfg_1 := blk_frozen HG.out 1
   have hfg_2 := blk_frozen HG.out 2
   have hfg_3 := blk_frozen HG.out 3
   go_enter Try.func29, Try.ntmps29
   go_wp2
   go_ret
   exact ⟨rfl, by repeat (first | exact HS.out | apply IsS75.alloc | apply IsS75.drewN | apply IsS75.drew), by repeat (first | exact HB.out | apply below_alloc | apply pw_below_drewN | apply below_drew1), by repeat (first | exact KeepT.refl _ | refine KeepT.below ?_ (below_drew (Below.refl _ _)) | refine KeepT.below ?_ (pw_below_drewN (Below.refl _ _) _))⟩
 ·rw [if_neg c1] at h
  have c1b : (a1 == 0) = false := beq_eq_false_iff_ne.mpr c1
  clear c1
  by_cases c2 : a1 = s0_1
  rotate_left
  ·rw [if_neg c2] at h
   simp only [Option.some.injEq, Prod.mk.injEq] at h
   obtain ⟨rfl, rfl, rfl, rfl, rfl, rfl, rfl, rfl, rfl, rfl, rfl, rfl, rfl, rfl, rfl, rfl⟩ := h
   have c2b : (a1 != s0_1) = true := bne_iff_ne.mpr c2
   clear c2
   rcases hI with ⟨e3, m, h0⟩ | ⟨e3, m, c, h0⟩
   ·have HG := Aside0.mk h0.1
    have HS : Aside0 (IsS75 w0 w g s0_0 s0_1 s0_2 s0_3 s0_4 s0_5 s0_6 s0_7 s0_8 s0_9 s0_10 s0_11 s0_12 s0_13 s0_14) := ⟨.inl ⟨e3, m, h0⟩⟩
    clear h0 e3
    have HB := Aside0.mk hB
    clear hB
    have hg_0 := (blk_cell HG.out 0).trans rfl
    have hg_1 := (blk_cell HG.out 1).trans rfl
    have hg_2 := (blk_cell HG.out 2).trans rfl
    have hg_3 := (blk_cell HG.out 3).trans rfl
    have hfg_0 := blk_frozen HG.out 0
    have hfg_1 := blk_frozen HG.out 1
    have hfg_2 := blk_frozen HG.out 2
    have hfg_3 := blk_frozen HG.out 3
    go_enter Try.func29, Try.ntmps29
    go_wp2
    go_ret
    exact ⟨rfl, by repeat (first | exact HS.out | apply IsS75.alloc | apply IsS75.drewN | apply IsS75.drew), by repeat (first | exact HB.out | apply below_alloc | apply pw_below_drewN | apply below_drew1), by repeat (first | exact KeepT.refl _ | refine KeepT.below ?_ (below_drew (Below.refl _ _)) | refine KeepT.below ?_ (pw_below_drewN (Below.refl _ _) _))⟩
   ·have HG := Aside0.mk h0.1
    have HS : Aside0 (IsS75 w0 w g s0_0 s0_1 s0_2 s0_3 s0_4 s0_5 s0_6 s0_7 s0_8 s0_9 s0_10 s0_11 s0_12 s0_13 s0_14) := ⟨.inr ⟨e3, m, c, h0⟩⟩
    clear h0 e3
    have HB := Aside0.mk hB
    clear hB
    have hg_0 := (blk_cell HG.out 0).trans rfl
    have hg_1 := (blk_cell HG.out 1).trans rfl
    have hg_2 := (blk_cell HG.out 2).trans rfl
    have hg_3 := (blk_cell HG.out 3).trans rfl
    have hfg_0 := blk_frozen HG.out 0
    have hfg_1 := blk_frozen HG.out 1
    have hfg_2 := blk_frozen HG.out 2
    have hfg_3 := blk_frozen HG.out 3
    go_enter Try.func29, Try.ntmps29
    go_wp2
    go_ret
    exact ⟨rfl, by repeat (first | exact HS.out | apply IsS75.alloc | apply IsS75.drewN | apply IsS75.drew), by repeat (first | exact HB.out | apply below_alloc | apply pw_below_drewN | apply below_drew1), by repeat (first | exact KeepT.refl _ | refine KeepT.below ?_ (below_drew (Below.refl _ _)) | refine KeepT.below ?_ (pw_below_drewN (Below.refl _ _) _))⟩
  rw [if_pos c2] at h
  have c2b : (a1 != s0_1) = false := bne_eq_false_iff_eq.mpr c2
  replace h := Option.bind_eq_some_iff.mp h
  obtain ⟨t, A1_, h⟩ := h
  have A1 := Aside0.mk A1_
  clear A1_
  cases t with
  | false =>
   rw [if_neg (by simp)] at h
   simp only [Option.some.injEq, Prod.mk.injEq] at h
   obtain ⟨rfl, rfl, rfl, rfl, rfl, rfl, rfl, rfl, rfl, rfl, rfl, rfl, rfl, rfl, rfl, rfl⟩ := h
   clear c2
   rcases hI with ⟨e3, m, h0⟩ | ⟨e3, m, c, h0⟩
   ·have HG := Aside0.mk h0.1
    have HS : Aside0 (IsS75 w0 w g s0_0 s0_1 s0_2 s0_3 s0_4 s0_5 s0_6 s0_7 s0_8 s0_9 s0_10 s0_11 s0_12 s0_13 s0_14) := ⟨.inl ⟨e3, m, h0⟩⟩
    clear h0 e3
    have HB := Aside0.mk hB
    clear hB
    have hg_0 := (blk_cell HG.out 0).trans rfl
    have hg_1 := (blk_cell HG.out 1).trans rfl
    have hg_2 := (blk_cell HG.out 2).trans rfl
    have hg_3 := (blk_cell HG.out 3).trans rfl
    have hfg_0 := blk_frozen HG.out 0
    have hfg_1 := blk_frozen HG.out 1
    have hfg_2 := blk_frozen HG.out 2
    have hfg_3 := blk_frozen HG.out 3
    go_enter Try.func29, Try.ntmps29
    go_wp2_with (first | (go_at_call 44; (with_reducible refine (probe_good.calls a2 a3 _ _ A1.out).mono ?_); rintro e w' ⟨rfl, hd⟩; obtain ⟨n, rfl⟩ := hd.out))
    go_ret
    exact ⟨rfl, by repeat (first | exact HS.out | apply IsS75.alloc | apply IsS75.drewN | apply IsS75.drew), by repeat (first | exact HB.out | apply below_alloc | apply pw_below_drewN | apply below_drew1), by repeat (first | exact KeepT.refl _ | refine KeepT.below ?_ (below_drew (Below.refl _ _)) | refine KeepT.below ?_ (pw_below_drewN (Below.refl _ _) _))⟩
   ·have HG := Aside0.mk h0.1
    have HS : Aside0 (IsS75 w0 w g s0_0 s0_1 s0_2 s0_3 s0_4 s0_5 s0_6 s0_7 s0_8 s0_9 s0_10 s0_11 s0_12 s0_13 s0_14) := ⟨.inr ⟨e3, m, c, h0⟩⟩
    clear h0 e3
    have HB := Aside0.mk hB
    clear hB
    have hg_0 := (blk_cell HG.out 0).trans rfl
    have hg_1 := (blk_cell HG.out 1).trans rfl
    have hg_2 := (blk_cell HG.out 2).trans rfl
    have hg_3 := (blk_cell HG.out 3).trans rfl
    have hfg_0 := blk_frozen HG.out 0
    have hfg_1 := blk_frozen HG.out 1
    have hfg_2 := blk_frozen HG.out 2
    have hfg_3 := blk_frozen HG.out 3
    go_enter Try.func29, Try.ntmps29
    go_wp2_with (first | (go_at_call 44; (with_reducible refine (probe_good.calls a2 a3 _ _ A1.out).mono ?_); rintro e w' ⟨rfl, hd⟩; obtain ⟨n, rfl⟩ := hd.out))
    go_ret
    exact ⟨rfl, by repeat (first | exact HS.out | apply IsS75.alloc | apply IsS75.drewN | apply IsS75.drew), by repeat (first | exact HB.out | apply below_alloc | apply pw_below_drewN | apply below_drew1), by repeat (first | exact KeepT.refl _ | refine KeepT.below ?_ (below_drew (Below.refl _ _)) | refine KeepT.below ?_ (pw_below_drewN (Below.refl _ _) _))⟩
  | true =>
   rw [if_pos rfl] at h
   by_cases c3 : s0_3 = 1 ∧ s0_1 = 1
   rotate_left
   ·rw [if_neg c3] at h; cases h
   rw [if_pos c3] at h
   obtain ⟨d3, d1⟩ := c3
   subst d3 d1 c2
   replace h := Option.bind_eq_some_iff.mp h
   obtain ⟨l, hl_, h⟩ := h
   have hl := Option.some.inj hl_
   clear hl_
   rcases hI with ⟨e3, m, h0⟩ | ⟨e3, m, c, h0⟩
   ·omega
   have HP := Aside0.mk (show PF w0 w w g m c s0_0 1 s0_2 #[.int .i64 s0_4, .int .i64 s0_5, .int .i64 s0_6, .int .i64 s0_7, .int .i64 s0_8, .int .i64 s0_9, .int .i64 s0_10, .int .i64 s0_11, .int .i64 s0_12, .int .i64 s0_13, .int .i64 s0_14] from ⟨h0, hB, KeepT.refl w⟩)
   clear h0 hB e3
   have hg_0 := (blk_cell HP.out.1.1 0).trans rfl
   have hg_1 := (blk_cell HP.out.1.1 1).trans rfl
   have hg_2 := (blk_cell HP.out.1.1 2).trans rfl
   have hg_3 := (blk_cell HP.out.1.1 3).trans rfl
   have hfg_0 := blk_frozen HP.out.1.1 0
   have hfg_1 := blk_frozen HP.out.1.1 1
   have hfg_2 := blk_frozen HP.out.1.1 2
   have hfg_3 := blk_frozen HP.out.1.1 3
   by_cases c9 : l ≤ 0
   ·rw [if_pos c9] at h
    simp only [Option.some.injEq, Prod.mk.injEq] at h
    obtain ⟨rfl, rfl, rfl, rfl, rfl, rfl, rfl, rfl, rfl, rfl, rfl, rfl, rfl, rfl, rfl, rfl⟩ := h
    have c9b : decide (l ≤ 0) = true := decide_eq_true c9
    go_enter Try.func29, Try.ntmps29
    go_wp2_with (first | (go_at_call 44; (with_reducible refine (probe_good.calls a2 a3 _ _ A1.out).mono ?_); rintro e w5 ⟨rfl, hd⟩; have hb5 : Below w.heap.size w w5 := (by obtain ⟨n, rfl⟩ := hd.out; exact pw_below_drewN (Below.refl _ _) n); have n0_ := Aside0.mk (PF.below HP.out hb5); clear HP hd hb5; have HP := n0_; clear n0_; clear hg_0 hg_1 hg_2 hg_3 hfg_0 hfg_1 hfg_2 hfg_3; have hg_0 := (blk_cell HP.out.1.1 0).trans rfl; have hg_1 := (blk_cell HP.out.1.1 1).trans rfl; have hg_2 := (blk_cell HP.out.1.1 2).trans rfl; have hg_3 := (blk_cell HP.out.1.1 3).trans rfl; have hfg_0 := blk_frozen HP.out.1.1 0; have hfg_1 := blk_frozen HP.out.1.1 1; have hfg_2 := blk_frozen HP.out.1.1 2; have hfg_3 := blk_frozen HP.out.1.1 3; have hc_0 := (blk_cell HP.out.1.2.2.2.2.1 0).trans rfl; have hc_1 := (blk_cell HP.out.1.2.2.2.2.1 1).trans rfl; have hc_2 := (blk_cell HP.out.1.2.2.2.2.1 2).trans rfl; have hc_3 := (blk_cell HP.out.1.2.2.2.2.1 3).trans rfl; have hc_4 := (blk_cell HP.out.1.2.2.2.2.1 4).trans rfl; have hc_5 := (blk_cell HP.out.1.2.2.2.2.1 5).trans rfl; have hc_6 := (blk_cell HP.out.1.2.2.2.2.1 6).trans rfl; have hc_7 := (blk_cell HP.out.1.2.2.2.2.1 7).trans rfl; have hc_8 := (blk_cell HP.out.1.2.2.2.2.1 8).trans rfl; have hc_9 := (blk_cell HP.out.1.2.2.2.2.1 9).trans rfl; have hc_10 := (blk_cell HP.out.1.2.2.2.2.1 10).trans rfl; have hfc_0 := blk_frozen HP.out.1.2.2.2.2.1 0; have hfc_1 := blk_frozen HP.out.1.2.2.2.2.1 1; have hfc_2 := blk_frozen HP.out.1.2.2.2.2.1 2; have hfc_3 := blk_frozen HP.out.1.2.2.2.2.1 3; have hfc_4 := blk_frozen HP.out.1.2.2.2.2.1 4; have hfc_5 := blk_frozen HP.out.1.2.2.2.2.1 5; have hfc_6 := blk_frozen HP.out.1.2.2.2.2.1 6; have hfc_7 := blk_frozen HP.out.1.2.2.2.2.1 7; have hfc_8 := blk_frozen HP.out.1.2.2.2.2.1 8; have hfc_9 := blk_frozen HP.out.1.2.2.2.2.1 9; have hfc_10 := blk_frozen HP.out.1.2.2.2.2.1 10; obtain ⟨em, cl, hm⟩ := HP.out.1.2.2.1; have hlk := look_f (k := 1) hm rfl; clear hm; have hx1 := blk_frozen (PF.setc HP.out 2 (.int .i64 l)).1.1 2; have hx2 := (blk_cell (PF.setc HP.out 2 (.int .i64 l)).1.1 2).trans rfl))
    have hF : PF w0 w _ g m c s0_0 0 s0_2 #[.int .i64 s0_4, .int .i64 s0_5, .int .i64 l, .int .i64 s0_7, .int .i64 s0_8, .int .i64 s0_9, .int .i64 s0_10, .int .i64 s0_11, .int .i64 s0_12, .int .i64 s0_13, .int .i64 s0_14] := (HP.out.setc 2 (.int .i64 l)).setg1 0
    go_ret
    exact ⟨rfl, .inr ⟨rfl, m, c, hF.1⟩, hF.2.1, hF.2.2⟩
   ·rw [if_neg c9] at h
    simp only [Option.some.injEq, Prod.mk.injEq] at h
    obtain ⟨rfl, rfl, rfl, rfl, rfl, rfl, rfl, rfl, rfl, rfl, rfl, rfl, rfl, rfl, rfl, rfl⟩ := h
    have c9b : decide (l ≤ 0) = false := decide_eq_false c9
    go_enter Try.func29, Try.ntmps29
    go_wp2_with (first | (go_at_call 44; (with_reducible refine (probe_good.calls a2 a3 _ _ A1.out).mono ?_); rintro e w5 ⟨rfl, hd⟩; have hb5 : Below w.heap.size w w5 := (by obtain ⟨n, rfl⟩ := hd.out; exact pw_below_drewN (Below.refl _ _) n); have n0_ := Aside0.mk (PF.below HP.out hb5); clear HP hd hb5; have HP := n0_; clear n0_; clear hg_0 hg_1 hg_2 hg_3 hfg_0 hfg_1 hfg_2 hfg_3; have hg_0 := (blk_cell HP.out.1.1 0).trans rfl; have hg_1 := (blk_cell HP.out.1.1 1).trans rfl; have hg_2 := (blk_cell HP.out.1.1 2).trans rfl; have hg_3 := (blk_cell HP.out.1.1 3).trans rfl; have hfg_0 := blk_frozen HP.out.1.1 0; have hfg_1 := blk_frozen HP.out.1.1 1; have hfg_2 := blk_frozen HP.out.1.1 2; have hfg_3 := blk_frozen HP.out.1.1 3; have hc_0 := (blk_cell HP.out.1.2.2.2.2.1 0).trans rfl; have hc_1 := (blk_cell HP.out.1.2.2.2.2.1 1).trans rfl; have hc_2 := (blk_cell HP.out.1.2.2.2.2.1 2).trans rfl; have hc_3 := (blk_cell HP.out.1.2.2.2.2.1 3).trans rfl; have hc_4 := (blk_cell HP.out.1.2.2.2.2.1 4).trans rfl; have hc_5 := (blk_cell HP.out.1.2.2.2.2.1 5).trans rfl; have hc_6 := (blk_cell HP.out.1.2.2.2.2.1 6).trans rfl; have hc_7 := (blk_cell HP.out.1.2.2.2.2.1 7).trans rfl; have hc_8 := (blk_cell HP.out.1.2.2.2.2.1 8).trans rfl; have hc_9 := (blk_cell HP.out.1.2.2.2.2.1 9).trans rfl; have hc_10 := (blk_cell HP.out.1.2.2.2.2.1 10).trans rfl; have hfc_0 := blk_frozen HP.out.1.2.2.2.2.1 0; have hfc_1 := blk_frozen HP.out.1.2.2.2.2.1 1; have hfc_2 := blk_frozen HP.out.1.2.2.2.2.1 2; have hfc_3 := blk_frozen HP.out.1.2.2.2.2.1 3; have hfc_4 := blk_frozen HP.out.1.2.2.2.2.1 4; have hfc_5 := blk_frozen HP.out.1.2.2.2.2.1 5; have hfc_6 := blk_frozen HP.out.1.2.2.2.2.1 6; have hfc_7 := blk_frozen HP.out.1.2.2.2.2.1 7; have hfc_8 := blk_frozen HP.out.1.2.2.2.2.1 8; have hfc_9 := blk_frozen HP.out.1.2.2.2.2.1 9; have hfc_10 := blk_frozen HP.out.1.2.2.2.2.1 10; obtain ⟨em, cl, hm⟩ := HP.out.1.2.2.1; have hlk := look_f (k := 1) hm rfl; clear hm; have hx1 := blk_frozen (PF.setc HP.out 2 (.int .i64 l)).1.1 2; have hx2 := (blk_cell (PF.setc HP.out 2 (.int .i64 l)).1.1 2).trans rfl))
    have hF : PF w0 w _ g m c s0_0 1 s0_2 #[.int .i64 s0_4, .int .i64 s0_5, .int .i64 l, .int .i64 s0_7, .int .i64 s0_8, .int .i64 s0_9, .int .i64 s0_10, .int .i64 s0_11, .int .i64 s0_12, .int .i64 s0_13, .int .i64 s0_14] := HP.out.setc 2 (.int .i64 l)
    go_ret
    exact ⟨rfl, .inr ⟨rfl, m, c, hF.1⟩, hF.2.1, hF.2.2⟩
def flywheellaw26_wakes.f  : Option (Bool) := (probe_New.f).bind fun bt121 => ((probe_Probe_Start.f bt121.1 bt121.2.1 bt121.2.2.1 bt121.2.2.2.1 bt121.2.2.2.2.1 bt121.2.2.2.2.2.1 bt121.2.2.2.2.2.2.1 bt121.2.2.2.2.2.2.2.1 bt121.2.2.2.2.2.2.2.2.1 bt121.2.2.2.2.2.2.2.2.2.1 bt121.2.2.2.2.2.2.2.2.2.2.1 bt121.2.2.2.2.2.2.2.2.2.2.2.1 bt121.2.2.2.2.2.2.2.2.2.2.2.2.1 bt121.2.2.2.2.2.2.2.2.2.2.2.2.2.1 bt121.2.2.2.2.2.2.2.2.2.2.2.2.2.2 8000000).bind fun bt137 => (if bt137.1 = 1 then ((probe_Probe_Open.f bt137.2.1 bt137.2.2.1 bt137.2.2.2.1 bt137.2.2.2.2.1 bt137.2.2.2.2.2.1 bt137.2.2.2.2.2.2.1 bt137.2.2.2.2.2.2.2.1 bt137.2.2.2.2.2.2.2.2.1 bt137.2.2.2.2.2.2.2.2.2.1 bt137.2.2.2.2.2.2.2.2.2.2.1 bt137.2.2.2.2.2.2.2.2.2.2.2.1 bt137.2.2.2.2.2.2.2.2.2.2.2.2.1 bt137.2.2.2.2.2.2.2.2.2.2.2.2.2.1 bt137.2.2.2.2.2.2.2.2.2.2.2.2.2.2.1 bt137.2.2.2.2.2.2.2.2.2.2.2.2.2.2.2).bind fun bt153 => (if bt153.1 = 1 then (if bt153.2.1 = 8000000 then (if bt153.2.2.1 = 15000 then ((probe_Probe_Sent.f bt153.2.2.2.1 bt153.2.2.2.2.1 bt153.2.2.2.2.2.1 bt153.2.2.2.2.2.2.1 bt153.2.2.2.2.2.2.2.1 bt153.2.2.2.2.2.2.2.2.1 bt153.2.2.2.2.2.2.2.2.2.1 bt153.2.2.2.2.2.2.2.2.2.2.1 bt153.2.2.2.2.2.2.2.2.2.2.2.1 bt153.2.2.2.2.2.2.2.2.2.2.2.2.1 bt153.2.2.2.2.2.2.2.2.2.2.2.2.2.1 bt153.2.2.2.2.2.2.2.2.2.2.2.2.2.2.1 bt153.2.2.2.2.2.2.2.2.2.2.2.2.2.2.2.1 bt153.2.2.2.2.2.2.2.2.2.2.2.2.2.2.2.2.1 bt153.2.2.2.2.2.2.2.2.2.2.2.2.2.2.2.2.2 1 1500 0).bind fun bt171 => (if bt171.1 = true then ((probe_Probe_Start.f bt171.2.1 bt171.2.2.1 bt171.2.2.2.1 bt171.2.2.2.2.1 bt171.2.2.2.2.2.1 bt171.2.2.2.2.2.2.1 bt171.2.2.2.2.2.2.2.1 bt171.2.2.2.2.2.2.2.2.1 bt171.2.2.2.2.2.2.2.2.2.1 bt171.2.2.2.2.2.2.2.2.2.2.1 bt171.2.2.2.2.2.2.2.2.2.2.2.1 bt171.2.2.2.2.2.2.2.2.2.2.2.2.1 bt171.2.2.2.2.2.2.2.2.2.2.2.2.2.1 bt171.2.2.2.2.2.2.2.2.2.2.2.2.2.2.1 bt171.2.2.2.2.2.2.2.2.2.2.2.2.2.2.2 1).bind fun bt187 => (some (bt187.1 == 0))) else (some false))) else (some false)) else (some false)) else (some false))) else (some false)))
set_option maxHeartbeats 8000000 in
set_option maxRecDepth 100000 in
theorem flywheellaw26_wakes.calls  (r : Bool) (w : World) (h : flywheellaw26_wakes.f  = some r) :
  Calls Try.prog 26 #[] w fun e w' => e = .returned (.bool r) ∧ Below w.heap.size w w' := by
 have hpn35_eql : ∀ (a_ : Addr) (W_ : World), (Go.binOp .eql 35 (.pointer (some a_)) (.pointer none)).run Try.prog W_ = .ok (.bool false) W_ := fun _ _ => by kernel_rfl
 have hnn35_eql : ∀ (W_ : World), (Go.binOp .eql 35 (.pointer none) (.pointer none)).run Try.prog W_ = .ok (.bool true) W_ := fun _ => by kernel_rfl
 have HB := Aside0.mk (Below.refl w.heap.size w)
 have H : ((probe_New.f).bind fun bt121 => ((probe_Probe_Start.f bt121.1 bt121.2.1 bt121.2.2.1 bt121.2.2.2.1 bt121.2.2.2.2.1 bt121.2.2.2.2.2.1 bt121.2.2.2.2.2.2.1 bt121.2.2.2.2.2.2.2.1 bt121.2.2.2.2.2.2.2.2.1 bt121.2.2.2.2.2.2.2.2.2.1 bt121.2.2.2.2.2.2.2.2.2.2.1 bt121.2.2.2.2.2.2.2.2.2.2.2.1 bt121.2.2.2.2.2.2.2.2.2.2.2.2.1 bt121.2.2.2.2.2.2.2.2.2.2.2.2.2.1 bt121.2.2.2.2.2.2.2.2.2.2.2.2.2.2 8000000).bind fun bt137 => (if bt137.1 = 1 then ((probe_Probe_Open.f bt137.2.1 bt137.2.2.1 bt137.2.2.2.1 bt137.2.2.2.2.1 bt137.2.2.2.2.2.1 bt137.2.2.2.2.2.2.1 bt137.2.2.2.2.2.2.2.1 bt137.2.2.2.2.2.2.2.2.1 bt137.2.2.2.2.2.2.2.2.2.1 bt137.2.2.2.2.2.2.2.2.2.2.1 bt137.2.2.2.2.2.2.2.2.2.2.2.1 bt137.2.2.2.2.2.2.2.2.2.2.2.2.1 bt137.2.2.2.2.2.2.2.2.2.2.2.2.2.1 bt137.2.2.2.2.2.2.2.2.2.2.2.2.2.2.1 bt137.2.2.2.2.2.2.2.2.2.2.2.2.2.2.2).bind fun bt153 => (if bt153.1 = 1 then (if bt153.2.1 = 8000000 then (if bt153.2.2.1 = 15000 then ((probe_Probe_Sent.f bt153.2.2.2.1 bt153.2.2.2.2.1 bt153.2.2.2.2.2.1 bt153.2.2.2.2.2.2.1 bt153.2.2.2.2.2.2.2.1 bt153.2.2.2.2.2.2.2.2.1 bt153.2.2.2.2.2.2.2.2.2.1 bt153.2.2.2.2.2.2.2.2.2.2.1 bt153.2.2.2.2.2.2.2.2.2.2.2.1 bt153.2.2.2.2.2.2.2.2.2.2.2.2.1 bt153.2.2.2.2.2.2.2.2.2.2.2.2.2.1 bt153.2.2.2.2.2.2.2.2.2.2.2.2.2.2.1 bt153.2.2.2.2.2.2.2.2.2.2.2.2.2.2.2.1 bt153.2.2.2.2.2.2.2.2.2.2.2.2.2.2.2.2.1 bt153.2.2.2.2.2.2.2.2.2.2.2.2.2.2.2.2.2 1 1500 0).bind fun bt171 => (if bt171.1 = true then ((probe_Probe_Start.f bt171.2.1 bt171.2.2.1 bt171.2.2.2.1 bt171.2.2.2.2.1 bt171.2.2.2.2.2.1 bt171.2.2.2.2.2.2.1 bt171.2.2.2.2.2.2.2.1 bt171.2.2.2.2.2.2.2.2.1 bt171.2.2.2.2.2.2.2.2.2.1 bt171.2.2.2.2.2.2.2.2.2.2.1 bt171.2.2.2.2.2.2.2.2.2.2.2.1 bt171.2.2.2.2.2.2.2.2.2.2.2.2.1 bt171.2.2.2.2.2.2.2.2.2.2.2.2.2.1 bt171.2.2.2.2.2.2.2.2.2.2.2.2.2.2.1 bt171.2.2.2.2.2.2.2.2.2.2.2.2.2.2.2 1).bind fun bt187 => (some (bt187.1 == 0))) else (some false))) else (some false)) else (some false)) else (some false))) else (some false)))) = some r := h
 clear h
 replace H := Option.bind_eq_some_iff.mp H
 obtain ⟨⟨t121, t122, t123, t124, t125, t126, t127, t128, t129, t130, t131, t132, t133, t134, t135⟩, A10, H⟩ := H
 replace H : ((probe_Probe_Start.f t121 t122 t123 t124 t125 t126 t127 t128 t129 t130 t131 t132 t133 t134 t135 8000000).bind fun bt137 => (if bt137.1 = 1 then ((probe_Probe_Open.f bt137.2.1 bt137.2.2.1 bt137.2.2.2.1 bt137.2.2.2.2.1 bt137.2.2.2.2.2.1 bt137.2.2.2.2.2.2.1 bt137.2.2.2.2.2.2.2.1 bt137.2.2.2.2.2.2.2.2.1 bt137.2.2.2.2.2.2.2.2.2.1 bt137.2.2.2.2.2.2.2.2.2.2.1 bt137.2.2.2.2.2.2.2.2.2.2.2.1 bt137.2.2.2.2.2.2.2.2.2.2.2.2.1 bt137.2.2.2.2.2.2.2.2.2.2.2.2.2.1 bt137.2.2.2.2.2.2.2.2.2.2.2.2.2.2.1 bt137.2.2.2.2.2.2.2.2.2.2.2.2.2.2.2).bind fun bt153 => (if bt153.1 = 1 then (if bt153.2.1 = 8000000 then (if bt153.2.2.1 = 15000 then ((probe_Probe_Sent.f bt153.2.2.2.1 bt153.2.2.2.2.1 bt153.2.2.2.2.2.1 bt153.2.2.2.2.2.2.1 bt153.2.2.2.2.2.2.2.1 bt153.2.2.2.2.2.2.2.2.1 bt153.2.2.2.2.2.2.2.2.2.1 bt153.2.2.2.2.2.2.2.2.2.2.1 bt153.2.2.2.2.2.2.2.2.2.2.2.1 bt153.2.2.2.2.2.2.2.2.2.2.2.2.1 bt153.2.2.2.2.2.2.2.2.2.2.2.2.2.1 bt153.2.2.2.2.2.2.2.2.2.2.2.2.2.2.1 bt153.2.2.2.2.2.2.2.2.2.2.2.2.2.2.2.1 bt153.2.2.2.2.2.2.2.2.2.2.2.2.2.2.2.2.1 bt153.2.2.2.2.2.2.2.2.2.2.2.2.2.2.2.2.2 1 1500 0).bind fun bt171 => (if bt171.1 = true then ((probe_Probe_Start.f bt171.2.1 bt171.2.2.1 bt171.2.2.2.1 bt171.2.2.2.2.1 bt171.2.2.2.2.2.1 bt171.2.2.2.2.2.2.1 bt171.2.2.2.2.2.2.2.1 bt171.2.2.2.2.2.2.2.2.1 bt171.2.2.2.2.2.2.2.2.2.1 bt171.2.2.2.2.2.2.2.2.2.2.1 bt171.2.2.2.2.2.2.2.2.2.2.2.1 bt171.2.2.2.2.2.2.2.2.2.2.2.2.1 bt171.2.2.2.2.2.2.2.2.2.2.2.2.2.1 bt171.2.2.2.2.2.2.2.2.2.2.2.2.2.2.1 bt171.2.2.2.2.2.2.2.2.2.2.2.2.2.2.2 1).bind fun bt187 => (some (bt187.1 == 0))) else (some false))) else (some false)) else (some false)) else (some false))) else (some false))) = some r := H
 have A1 := Aside0.mk A10
 clear A10
 replace H := Option.bind_eq_some_iff.mp H
 obtain ⟨⟨t137, t138, t139, t140, t141, t142, t143, t144, t145, t146, t147, t148, t149, t150, t151, t152⟩, A20, H⟩ := H
 replace H : (if t137 = 1 then ((probe_Probe_Open.f t138 t139 t140 t141 t142 t143 t144 t145 t146 t147 t148 t149 t150 t151 t152).bind fun bt153 => (if bt153.1 = 1 then (if bt153.2.1 = 8000000 then (if bt153.2.2.1 = 15000 then ((probe_Probe_Sent.f bt153.2.2.2.1 bt153.2.2.2.2.1 bt153.2.2.2.2.2.1 bt153.2.2.2.2.2.2.1 bt153.2.2.2.2.2.2.2.1 bt153.2.2.2.2.2.2.2.2.1 bt153.2.2.2.2.2.2.2.2.2.1 bt153.2.2.2.2.2.2.2.2.2.2.1 bt153.2.2.2.2.2.2.2.2.2.2.2.1 bt153.2.2.2.2.2.2.2.2.2.2.2.2.1 bt153.2.2.2.2.2.2.2.2.2.2.2.2.2.1 bt153.2.2.2.2.2.2.2.2.2.2.2.2.2.2.1 bt153.2.2.2.2.2.2.2.2.2.2.2.2.2.2.2.1 bt153.2.2.2.2.2.2.2.2.2.2.2.2.2.2.2.2.1 bt153.2.2.2.2.2.2.2.2.2.2.2.2.2.2.2.2.2 1 1500 0).bind fun bt171 => (if bt171.1 = true then ((probe_Probe_Start.f bt171.2.1 bt171.2.2.1 bt171.2.2.2.1 bt171.2.2.2.2.1 bt171.2.2.2.2.2.1 bt171.2.2.2.2.2.2.1 bt171.2.2.2.2.2.2.2.1 bt171.2.2.2.2.2.2.2.2.1 bt171.2.2.2.2.2.2.2.2.2.1 bt171.2.2.2.2.2.2.2.2.2.2.1 bt171.2.2.2.2.2.2.2.2.2.2.2.1 bt171.2.2.2.2.2.2.2.2.2.2.2.2.1 bt171.2.2.2.2.2.2.2.2.2.2.2.2.2.1 bt171.2.2.2.2.2.2.2.2.2.2.2.2.2.2.1 bt171.2.2.2.2.2.2.2.2.2.2.2.2.2.2.2 1).bind fun bt187 => (some (bt187.1 == 0))) else (some false))) else (some false)) else (some false)) else (some false))) else (some false)) = some r := H
 have A2 := Aside0.mk A20
 clear A20
 by_cases c3 : t137 = 1
 ·rw [if_pos c3] at H
  have c3b0 : (t137 == 1) = true := beq_iff_eq.mpr c3
  have c3b1 : (t137 != 1) = false := bne_eq_false_iff_eq.mpr c3
  clear c3
  replace H := Option.bind_eq_some_iff.mp H
  obtain ⟨⟨t153, t154, t155, t156, t157, t158, t159, t160, t161, t162, t163, t164, t165, t166, t167, t168, t169, t170⟩, A40, H⟩ := H
  replace H : (if t153 = 1 then (if t154 = 8000000 then (if t155 = 15000 then ((probe_Probe_Sent.f t156 t157 t158 t159 t160 t161 t162 t163 t164 t165 t166 t167 t168 t169 t170 1 1500 0).bind fun bt171 => (if bt171.1 = true then ((probe_Probe_Start.f bt171.2.1 bt171.2.2.1 bt171.2.2.2.1 bt171.2.2.2.2.1 bt171.2.2.2.2.2.1 bt171.2.2.2.2.2.2.1 bt171.2.2.2.2.2.2.2.1 bt171.2.2.2.2.2.2.2.2.1 bt171.2.2.2.2.2.2.2.2.2.1 bt171.2.2.2.2.2.2.2.2.2.2.1 bt171.2.2.2.2.2.2.2.2.2.2.2.1 bt171.2.2.2.2.2.2.2.2.2.2.2.2.1 bt171.2.2.2.2.2.2.2.2.2.2.2.2.2.1 bt171.2.2.2.2.2.2.2.2.2.2.2.2.2.2.1 bt171.2.2.2.2.2.2.2.2.2.2.2.2.2.2.2 1).bind fun bt187 => (some (bt187.1 == 0))) else (some false))) else (some false)) else (some false)) else (some false)) = some r := H
  have A4 := Aside0.mk A40
  clear A40
  by_cases c5 : t153 = 1
  ·rw [if_pos c5] at H
   have c5b0 : (t153 == 1) = true := beq_iff_eq.mpr c5
   have c5b1 : (t153 != 1) = false := bne_eq_false_iff_eq.mpr c5
   clear c5
   by_cases c6 : t154 = 8000000
   ·rw [if_pos c6] at H
    have c6b0 : (t154 == 8000000) = true := beq_iff_eq.mpr c6
    have c6b1 : (t154 != 8000000) = false := bne_eq_false_iff_eq.mpr c6
    clear c6
    by_cases c7 : t155 = 15000
    ·rw [if_pos c7] at H
     have c7b0 : (t155 == 15000) = true := beq_iff_eq.mpr c7
     have c7b1 : (t155 != 15000) = false := bne_eq_false_iff_eq.mpr c7
     clear c7
     replace H := Option.bind_eq_some_iff.mp H
     obtain ⟨⟨t171, t172, t173, t174, t175, t176, t177, t178, t179, t180, t181, t182, t183, t184, t185, t186⟩, A80, H⟩ := H
     replace H : (if t171 = true then ((probe_Probe_Start.f t172 t173 t174 t175 t176 t177 t178 t179 t180 t181 t182 t183 t184 t185 t186 1).bind fun bt187 => (some (bt187.1 == 0))) else (some false)) = some r := H
     have A8 := Aside0.mk A80
     clear A80
     by_cases c9 : t171 = true
     ·subst c9
      have H1 : ((probe_Probe_Start.f t172 t173 t174 t175 t176 t177 t178 t179 t180 t181 t182 t183 t184 t185 t186 1).bind fun bt187 => (some (bt187.1 == 0))) = some r := by rw [if_pos rfl] at H; exact H
      clear H
      have H := H1
      clear H1
      replace H := Option.bind_eq_some_iff.mp H
      obtain ⟨⟨t187, t188, t189, t190, t191, t192, t193, t194, t195, t196, t197, t198, t199, t200, t201, t202⟩, A100, H⟩ := H
      replace H : (some (t187 == 0)) = some r := H
      have A10 := Aside0.mk A100
      clear A100
      obtain rfl := Option.some.inj H
      go_enter Try.func26, Try.ntmps26
      go_wp2_with (first | ((with_reducible refine gate_callee (f := 21) rfl ?_); refine goesL_ (some 5) rfl rfl Try.func21 (by kernel_rfl) rfl #[] rfl (by (try simp only [List.map_toArray, List.map_cons, List.map_nil]); first | done | rfl | (simp only [List.length_drop, List.length_take]; rfl)) ?_; (with_reducible refine (probe_New.calls  t121 t122 t123 t124 t125 t126 t127 t128 t129 t130 t131 t132 t133 t134 t135 _ _ (Below.refl _ _) A1.out).mono ?_); rintro e w11 ⟨g136, rfl, hi, hb, hb2⟩; refine ⟨_, rfl, ?_⟩; have n0_ := Aside0.mk (below_step (by repeat (first | (with_reducible first | exact HB.out | apply below_alloc | apply pw_below_drewN | apply below_drew1) | exact HB.out)) hb2); have n1_ := Aside0.mk ((IsS75.rebase hi (below_size (by repeat (first | (with_reducible first | exact HB.out | apply below_alloc | apply pw_below_drewN | apply below_drew1) | exact HB.out))))); clear HB; have HB := n0_; have HI136 := n1_; clear n0_ n1_; (try clear hb); (try clear hb2); (try clear hk); (try clear hi)) | (go_at_call 23; (with_reducible refine (probe_Probe_Start.calls g136 t121 t122 t123 t124 t125 t126 t127 t128 t129 t130 t131 t132 t133 t134 t135 8000000 t137 t138 t139 t140 t141 t142 t143 t144 t145 t146 t147 t148 t149 t150 t151 t152 w _ ?side1 ?side2 A2.out).mono ?_); (case side1 => repeat (first | (with_reducible first | exact HI136.out | apply IsS75.alloc | apply IsS75.drewN | apply IsS75.drew | apply IsS75.set_0 | apply IsS75.set_1 | apply IsS75.set_2 | apply IsS75.set_3 | apply IsS75.set_4 | apply IsS75.set_5 | apply IsS75.set_6 | apply IsS75.set_7 | apply IsS75.set_8 | apply IsS75.set_9 | apply IsS75.set_10 | apply IsS75.set_11 | apply IsS75.set_12 | apply IsS75.set_13 | apply IsS75.set_14) | exact HI136.out)); (case side2 => repeat (first | (with_reducible first | exact HB.out | apply below_alloc | apply pw_below_drewN | apply below_drew1 | refine below_set ?_ (IsS75.ge HI136.out)) | exact HB.out)); rintro e w12 ⟨rfl, hi, hb, hk⟩; have n0_ := Aside0.mk (hb); have n1_ := Aside0.mk (hi); clear HB; clear HI136; have HB := n0_; have HI136 := n1_; clear n0_ n1_; (try clear hb); (try clear hb2); (try clear hk); (try clear hi)) | ((with_reducible refine gate_callee (f := 24) rfl ?_); refine goesL_ (some 15) rfl rfl Try.func24 (by kernel_rfl) rfl #[.pointer (some ⟨g136, 0, none⟩)] rfl (by (try simp only [List.map_toArray, List.map_cons, List.map_nil]); first | done | rfl | (simp only [List.length_drop, List.length_take]; rfl)) ?_; (with_reducible refine (probe_Probe_Open.calls g136 t138 t139 t140 t141 t142 t143 t144 t145 t146 t147 t148 t149 t150 t151 t152 t153 t154 t155 t156 t157 t158 t159 t160 t161 t162 t163 t164 t165 t166 t167 t168 t169 t170 w _ ?side1 ?side2 A4.out).mono ?_); (case side1 => repeat (first | (with_reducible first | exact HI136.out | apply IsS75.alloc | apply IsS75.drewN | apply IsS75.drew | apply IsS75.set_0 | apply IsS75.set_1 | apply IsS75.set_2 | apply IsS75.set_3 | apply IsS75.set_4 | apply IsS75.set_5 | apply IsS75.set_6 | apply IsS75.set_7 | apply IsS75.set_8 | apply IsS75.set_9 | apply IsS75.set_10 | apply IsS75.set_11 | apply IsS75.set_12 | apply IsS75.set_13 | apply IsS75.set_14) | exact HI136.out)); (case side2 => repeat (first | (with_reducible first | exact HB.out | apply below_alloc | apply pw_below_drewN | apply below_drew1 | refine below_set ?_ (IsS75.ge HI136.out)) | exact HB.out)); rintro e w13 ⟨rfl, hi, hb, hk⟩; refine ⟨_, rfl, ?_⟩; have n0_ := Aside0.mk (hb); have n1_ := Aside0.mk (hi); clear HB; clear HI136; have HB := n0_; have HI136 := n1_; clear n0_ n1_; (try clear hb); (try clear hb2); (try clear hk); (try clear hi)) | (go_at_call 29; (with_reducible refine (probe_Probe_Sent.calls g136 t156 t157 t158 t159 t160 t161 t162 t163 t164 t165 t166 t167 t168 t169 t170 1 1500 0 true t172 t173 t174 t175 t176 t177 t178 t179 t180 t181 t182 t183 t184 t185 t186 w _ ?side1 ?side2 A8.out).mono ?_); (case side1 => repeat (first | (with_reducible first | exact HI136.out | apply IsS75.alloc | apply IsS75.drewN | apply IsS75.drew | apply IsS75.set_0 | apply IsS75.set_1 | apply IsS75.set_2 | apply IsS75.set_3 | apply IsS75.set_4 | apply IsS75.set_5 | apply IsS75.set_6 | apply IsS75.set_7 | apply IsS75.set_8 | apply IsS75.set_9 | apply IsS75.set_10 | apply IsS75.set_11 | apply IsS75.set_12 | apply IsS75.set_13 | apply IsS75.set_14) | exact HI136.out)); (case side2 => repeat (first | (with_reducible first | exact HB.out | apply below_alloc | apply pw_below_drewN | apply below_drew1 | refine below_set ?_ (IsS75.ge HI136.out)) | exact HB.out)); rintro e w14 ⟨rfl, hi, hb, hk⟩; have n0_ := Aside0.mk (hb); have n1_ := Aside0.mk (hi); clear HB; clear HI136; have HB := n0_; have HI136 := n1_; clear n0_ n1_; (try clear hb); (try clear hb2); (try clear hk); (try clear hi)) | (go_at_call 23; (with_reducible refine (probe_Probe_Start.calls g136 t172 t173 t174 t175 t176 t177 t178 t179 t180 t181 t182 t183 t184 t185 t186 1 t187 t188 t189 t190 t191 t192 t193 t194 t195 t196 t197 t198 t199 t200 t201 t202 w _ ?side1 ?side2 A10.out).mono ?_); (case side1 => repeat (first | (with_reducible first | exact HI136.out | apply IsS75.alloc | apply IsS75.drewN | apply IsS75.drew | apply IsS75.set_0 | apply IsS75.set_1 | apply IsS75.set_2 | apply IsS75.set_3 | apply IsS75.set_4 | apply IsS75.set_5 | apply IsS75.set_6 | apply IsS75.set_7 | apply IsS75.set_8 | apply IsS75.set_9 | apply IsS75.set_10 | apply IsS75.set_11 | apply IsS75.set_12 | apply IsS75.set_13 | apply IsS75.set_14) | exact HI136.out)); (case side2 => repeat (first | (with_reducible first | exact HB.out | apply below_alloc | apply pw_below_drewN | apply below_drew1 | refine below_set ?_ (IsS75.ge HI136.out)) | exact HB.out)); rintro e w15 ⟨rfl, hi, hb, hk⟩; have n0_ := Aside0.mk (hb); have n1_ := Aside0.mk (hi); clear HB; clear HI136; have HB := n0_; have HI136 := n1_; clear n0_ n1_; (try clear hb); (try clear hb2); (try clear hk); (try clear hi)))
      go_ret
      exact ⟨by first | rfl | (simp [errW_none, errW_some] <;> rfl) | (simp [*, errW_none, errW_some] <;> rfl), by repeat (first | (with_reducible first | exact HB.out | apply below_alloc | apply pw_below_drewN | apply below_drew1 | refine below_set ?_ (IsS75.ge HI136.out)) | exact HB.out)⟩
     ·replace c9 := Bool.eq_false_iff.mpr c9
      subst c9
      have H1 : (some false) = some r := by rw [if_neg (show ¬ (false = true) by decide)] at H; exact H
      clear H
      have H := H1
      clear H1
      obtain rfl := Option.some.inj H
      go_enter Try.func26, Try.ntmps26
      go_wp2_with (first | ((with_reducible refine gate_callee (f := 21) rfl ?_); refine goesL_ (some 5) rfl rfl Try.func21 (by kernel_rfl) rfl #[] rfl (by (try simp only [List.map_toArray, List.map_cons, List.map_nil]); first | done | rfl | (simp only [List.length_drop, List.length_take]; rfl)) ?_; (with_reducible refine (probe_New.calls  t121 t122 t123 t124 t125 t126 t127 t128 t129 t130 t131 t132 t133 t134 t135 _ _ (Below.refl _ _) A1.out).mono ?_); rintro e w16 ⟨g136, rfl, hi, hb, hb2⟩; refine ⟨_, rfl, ?_⟩; have n0_ := Aside0.mk (below_step (by repeat (first | (with_reducible first | exact HB.out | apply below_alloc | apply pw_below_drewN | apply below_drew1) | exact HB.out)) hb2); have n1_ := Aside0.mk ((IsS75.rebase hi (below_size (by repeat (first | (with_reducible first | exact HB.out | apply below_alloc | apply pw_below_drewN | apply below_drew1) | exact HB.out))))); clear HB; have HB := n0_; have HI136 := n1_; clear n0_ n1_; (try clear hb); (try clear hb2); (try clear hk); (try clear hi)) | (go_at_call 23; (with_reducible refine (probe_Probe_Start.calls g136 t121 t122 t123 t124 t125 t126 t127 t128 t129 t130 t131 t132 t133 t134 t135 8000000 t137 t138 t139 t140 t141 t142 t143 t144 t145 t146 t147 t148 t149 t150 t151 t152 w _ ?side1 ?side2 A2.out).mono ?_); (case side1 => repeat (first | (with_reducible first | exact HI136.out | apply IsS75.alloc | apply IsS75.drewN | apply IsS75.drew | apply IsS75.set_0 | apply IsS75.set_1 | apply IsS75.set_2 | apply IsS75.set_3 | apply IsS75.set_4 | apply IsS75.set_5 | apply IsS75.set_6 | apply IsS75.set_7 | apply IsS75.set_8 | apply IsS75.set_9 | apply IsS75.set_10 | apply IsS75.set_11 | apply IsS75.set_12 | apply IsS75.set_13 | apply IsS75.set_14) | exact HI136.out)); (case side2 => repeat (first | (with_reducible first | exact HB.out | apply below_alloc | apply pw_below_drewN | apply below_drew1 | refine below_set ?_ (IsS75.ge HI136.out)) | exact HB.out)); rintro e w17 ⟨rfl, hi, hb, hk⟩; have n0_ := Aside0.mk (hb); have n1_ := Aside0.mk (hi); clear HB; clear HI136; have HB := n0_; have HI136 := n1_; clear n0_ n1_; (try clear hb); (try clear hb2); (try clear hk); (try clear hi)) | ((with_reducible refine gate_callee (f := 24) rfl ?_); refine goesL_ (some 15) rfl rfl Try.func24 (by kernel_rfl) rfl #[.pointer (some ⟨g136, 0, none⟩)] rfl (by (try simp only [List.map_toArray, List.map_cons, List.map_nil]); first | done | rfl | (simp only [List.length_drop, List.length_take]; rfl)) ?_; (with_reducible refine (probe_Probe_Open.calls g136 t138 t139 t140 t141 t142 t143 t144 t145 t146 t147 t148 t149 t150 t151 t152 t153 t154 t155 t156 t157 t158 t159 t160 t161 t162 t163 t164 t165 t166 t167 t168 t169 t170 w _ ?side1 ?side2 A4.out).mono ?_); (case side1 => repeat (first | (with_reducible first | exact HI136.out | apply IsS75.alloc | apply IsS75.drewN | apply IsS75.drew | apply IsS75.set_0 | apply IsS75.set_1 | apply IsS75.set_2 | apply IsS75.set_3 | apply IsS75.set_4 | apply IsS75.set_5 | apply IsS75.set_6 | apply IsS75.set_7 | apply IsS75.set_8 | apply IsS75.set_9 | apply IsS75.set_10 | apply IsS75.set_11 | apply IsS75.set_12 | apply IsS75.set_13 | apply IsS75.set_14) | exact HI136.out)); (case side2 => repeat (first | (with_reducible first | exact HB.out | apply below_alloc | apply pw_below_drewN | apply below_drew1 | refine below_set ?_ (IsS75.ge HI136.out)) | exact HB.out)); rintro e w18 ⟨rfl, hi, hb, hk⟩; refine ⟨_, rfl, ?_⟩; have n0_ := Aside0.mk (hb); have n1_ := Aside0.mk (hi); clear HB; clear HI136; have HB := n0_; have HI136 := n1_; clear n0_ n1_; (try clear hb); (try clear hb2); (try clear hk); (try clear hi)) | (go_at_call 29; (with_reducible refine (probe_Probe_Sent.calls g136 t156 t157 t158 t159 t160 t161 t162 t163 t164 t165 t166 t167 t168 t169 t170 1 1500 0 false t172 t173 t174 t175 t176 t177 t178 t179 t180 t181 t182 t183 t184 t185 t186 w _ ?side1 ?side2 A8.out).mono ?_); (case side1 => repeat (first | (with_reducible first | exact HI136.out | apply IsS75.alloc | apply IsS75.drewN | apply IsS75.drew | apply IsS75.set_0 | apply IsS75.set_1 | apply IsS75.set_2 | apply IsS75.set_3 | apply IsS75.set_4 | apply IsS75.set_5 | apply IsS75.set_6 | apply IsS75.set_7 | apply IsS75.set_8 | apply IsS75.set_9 | apply IsS75.set_10 | apply IsS75.set_11 | apply IsS75.set_12 | apply IsS75.set_13 | apply IsS75.set_14) | exact HI136.out)); (case side2 => repeat (first | (with_reducible first | exact HB.out | apply below_alloc | apply pw_below_drewN | apply below_drew1 | refine below_set ?_ (IsS75.ge HI136.out)) | exact HB.out)); rintro e w19 ⟨rfl, hi, hb, hk⟩; have n0_ := Aside0.mk (hb); have n1_ := Aside0.mk (hi); clear HB; clear HI136; have HB := n0_; have HI136 := n1_; clear n0_ n1_; (try clear hb); (try clear hb2); (try clear hk); (try clear hi)))
      go_ret
      exact ⟨by first | rfl | (simp [errW_none, errW_some] <;> rfl) | (simp [*, errW_none, errW_some] <;> rfl), by repeat (first | (with_reducible first | exact HB.out | apply below_alloc | apply pw_below_drewN | apply below_drew1 | refine below_set ?_ (IsS75.ge HI136.out)) | exact HB.out)⟩
    ·rw [if_neg c7] at H
     have c7b0 : (t155 == 15000) = false := beq_eq_false_iff_ne.mpr c7
     have c7b1 : (t155 != 15000) = true := bne_iff_ne.mpr c7
     obtain rfl := Option.some.inj H
     go_enter Try.func26, Try.ntmps26
     go_wp2_with (first | ((with_reducible refine gate_callee (f := 21) rfl ?_); refine goesL_ (some 5) rfl rfl Try.func21 (by kernel_rfl) rfl #[] rfl (by (try simp only [List.map_toArray, List.map_cons, List.map_nil]); first | done | rfl | (simp only [List.length_drop, List.length_take]; rfl)) ?_; (with_reducible refine (probe_New.calls  t121 t122 t123 t124 t125 t126 t127 t128 t129 t130 t131 t132 t133 t134 t135 _ _ (Below.refl _ _) A1.out).mono ?_); rintro e w20 ⟨g136, rfl, hi, hb, hb2⟩; refine ⟨_, rfl, ?_⟩; have n0_ := Aside0.mk (below_step (by repeat (first | (with_reducible first | exact HB.out | apply below_alloc | apply pw_below_drewN | apply below_drew1) | exact HB.out)) hb2); have n1_ := Aside0.mk ((IsS75.rebase hi (below_size (by repeat (first | (with_reducible first | exact HB.out | apply below_alloc | apply pw_below_drewN | apply below_drew1) | exact HB.out))))); clear HB; have HB := n0_; have HI136 := n1_; clear n0_ n1_; (try clear hb); (try clear hb2); (try clear hk); (try clear hi)) | (go_at_call 23; (with_reducible refine (probe_Probe_Start.calls g136 t121 t122 t123 t124 t125 t126 t127 t128 t129 t130 t131 t132 t133 t134 t135 8000000 t137 t138 t139 t140 t141 t142 t143 t144 t145 t146 t147 t148 t149 t150 t151 t152 w _ ?side1 ?side2 A2.out).mono ?_); (case side1 => repeat (first | (with_reducible first | exact HI136.out | apply IsS75.alloc | apply IsS75.drewN | apply IsS75.drew | apply IsS75.set_0 | apply IsS75.set_1 | apply IsS75.set_2 | apply IsS75.set_3 | apply IsS75.set_4 | apply IsS75.set_5 | apply IsS75.set_6 | apply IsS75.set_7 | apply IsS75.set_8 | apply IsS75.set_9 | apply IsS75.set_10 | apply IsS75.set_11 | apply IsS75.set_12 | apply IsS75.set_13 | apply IsS75.set_14) | exact HI136.out)); (case side2 => repeat (first | (with_reducible first | exact HB.out | apply below_alloc | apply pw_below_drewN | apply below_drew1 | refine below_set ?_ (IsS75.ge HI136.out)) | exact HB.out)); rintro e w21 ⟨rfl, hi, hb, hk⟩; have n0_ := Aside0.mk (hb); have n1_ := Aside0.mk (hi); clear HB; clear HI136; have HB := n0_; have HI136 := n1_; clear n0_ n1_; (try clear hb); (try clear hb2); (try clear hk); (try clear hi)) | ((with_reducible refine gate_callee (f := 24) rfl ?_); refine goesL_ (some 15) rfl rfl Try.func24 (by kernel_rfl) rfl #[.pointer (some ⟨g136, 0, none⟩)] rfl (by (try simp only [List.map_toArray, List.map_cons, List.map_nil]); first | done | rfl | (simp only [List.length_drop, List.length_take]; rfl)) ?_; (with_reducible refine (probe_Probe_Open.calls g136 t138 t139 t140 t141 t142 t143 t144 t145 t146 t147 t148 t149 t150 t151 t152 t153 t154 t155 t156 t157 t158 t159 t160 t161 t162 t163 t164 t165 t166 t167 t168 t169 t170 w _ ?side1 ?side2 A4.out).mono ?_); (case side1 => repeat (first | (with_reducible first | exact HI136.out | apply IsS75.alloc | apply IsS75.drewN | apply IsS75.drew | apply IsS75.set_0 | apply IsS75.set_1 | apply IsS75.set_2 | apply IsS75.set_3 | apply IsS75.set_4 | apply IsS75.set_5 | apply IsS75.set_6 | apply IsS75.set_7 | apply IsS75.set_8 | apply IsS75.set_9 | apply IsS75.set_10 | apply IsS75.set_11 | apply IsS75.set_12 | apply IsS75.set_13 | apply IsS75.set_14) | exact HI136.out)); (case side2 => repeat (first | (with_reducible first | exact HB.out | apply below_alloc | apply pw_below_drewN | apply below_drew1 | refine below_set ?_ (IsS75.ge HI136.out)) | exact HB.out)); rintro e w22 ⟨rfl, hi, hb, hk⟩; refine ⟨_, rfl, ?_⟩; have n0_ := Aside0.mk (hb); have n1_ := Aside0.mk (hi); clear HB; clear HI136; have HB := n0_; have HI136 := n1_; clear n0_ n1_; (try clear hb); (try clear hb2); (try clear hk); (try clear hi)))
     go_ret
     exact ⟨by first | rfl | (simp [errW_none, errW_some] <;> rfl) | (simp [*, errW_none, errW_some] <;> rfl), by repeat (first | (with_reducible first | exact HB.out | apply below_alloc | apply pw_below_drewN | apply below_drew1 | refine below_set ?_ (IsS75.ge HI136.out)) | exact HB.out)⟩
   ·rw [if_neg c6] at H
    have c6b0 : (t154 == 8000000) = false := beq_eq_false_iff_ne.mpr c6
    have c6b1 : (t154 != 8000000) = true := bne_iff_ne.mpr c6
    obtain rfl := Option.some.inj H
    go_enter Try.func26, Try.ntmps26
    go_wp2_with (first | ((with_reducible refine gate_callee (f := 21) rfl ?_); refine goesL_ (some 5) rfl rfl Try.func21 (by kernel_rfl) rfl #[] rfl (by (try simp only [List.map_toArray, List.map_cons, List.map_nil]); first | done | rfl | (simp only [List.length_drop, List.length_take]; rfl)) ?_; (with_reducible refine (probe_New.calls  t121 t122 t123 t124 t125 t126 t127 t128 t129 t130 t131 t132 t133 t134 t135 _ _ (Below.refl _ _) A1.out).mono ?_); rintro e w23 ⟨g136, rfl, hi, hb, hb2⟩; refine ⟨_, rfl, ?_⟩; have n0_ := Aside0.mk (below_step (by repeat (first | (with_reducible first | exact HB.out | apply below_alloc | apply pw_below_drewN | apply below_drew1) | exact HB.out)) hb2); have n1_ := Aside0.mk ((IsS75.rebase hi (below_size (by repeat (first | (with_reducible first | exact HB.out | apply below_alloc | apply pw_below_drewN | apply below_drew1) | exact HB.out))))); clear HB; have HB := n0_; have HI136 := n1_; clear n0_ n1_; (try clear hb); (try clear hb2); (try clear hk); (try clear hi)) | (go_at_call 23; (with_reducible refine (probe_Probe_Start.calls g136 t121 t122 t123 t124 t125 t126 t127 t128 t129 t130 t131 t132 t133 t134 t135 8000000 t137 t138 t139 t140 t141 t142 t143 t144 t145 t146 t147 t148 t149 t150 t151 t152 w _ ?side1 ?side2 A2.out).mono ?_); (case side1 => repeat (first | (with_reducible first | exact HI136.out | apply IsS75.alloc | apply IsS75.drewN | apply IsS75.drew | apply IsS75.set_0 | apply IsS75.set_1 | apply IsS75.set_2 | apply IsS75.set_3 | apply IsS75.set_4 | apply IsS75.set_5 | apply IsS75.set_6 | apply IsS75.set_7 | apply IsS75.set_8 | apply IsS75.set_9 | apply IsS75.set_10 | apply IsS75.set_11 | apply IsS75.set_12 | apply IsS75.set_13 | apply IsS75.set_14) | exact HI136.out)); (case side2 => repeat (first | (with_reducible first | exact HB.out | apply below_alloc | apply pw_below_drewN | apply below_drew1 | refine below_set ?_ (IsS75.ge HI136.out)) | exact HB.out)); rintro e w24 ⟨rfl, hi, hb, hk⟩; have n0_ := Aside0.mk (hb); have n1_ := Aside0.mk (hi); clear HB; clear HI136; have HB := n0_; have HI136 := n1_; clear n0_ n1_; (try clear hb); (try clear hb2); (try clear hk); (try clear hi)) | ((with_reducible refine gate_callee (f := 24) rfl ?_); refine goesL_ (some 15) rfl rfl Try.func24 (by kernel_rfl) rfl #[.pointer (some ⟨g136, 0, none⟩)] rfl (by (try simp only [List.map_toArray, List.map_cons, List.map_nil]); first | done | rfl | (simp only [List.length_drop, List.length_take]; rfl)) ?_; (with_reducible refine (probe_Probe_Open.calls g136 t138 t139 t140 t141 t142 t143 t144 t145 t146 t147 t148 t149 t150 t151 t152 t153 t154 t155 t156 t157 t158 t159 t160 t161 t162 t163 t164 t165 t166 t167 t168 t169 t170 w _ ?side1 ?side2 A4.out).mono ?_); (case side1 => repeat (first | (with_reducible first | exact HI136.out | apply IsS75.alloc | apply IsS75.drewN | apply IsS75.drew | apply IsS75.set_0 | apply IsS75.set_1 | apply IsS75.set_2 | apply IsS75.set_3 | apply IsS75.set_4 | apply IsS75.set_5 | apply IsS75.set_6 | apply IsS75.set_7 | apply IsS75.set_8 | apply IsS75.set_9 | apply IsS75.set_10 | apply IsS75.set_11 | apply IsS75.set_12 | apply IsS75.set_13 | apply IsS75.set_14) | exact HI136.out)); (case side2 => repeat (first | (with_reducible first | exact HB.out | apply below_alloc | apply pw_below_drewN | apply below_drew1 | refine below_set ?_ (IsS75.ge HI136.out)) | exact HB.out)); rintro e w25 ⟨rfl, hi, hb, hk⟩; refine ⟨_, rfl, ?_⟩; have n0_ := Aside0.mk (hb); have n1_ := Aside0.mk (hi); clear HB; clear HI136; have HB := n0_; have HI136 := n1_; clear n0_ n1_; (try clear hb); (try clear hb2); (try clear hk); (try clear hi)))
    go_ret
    exact ⟨by first | rfl | (simp [errW_none, errW_some] <;> rfl) | (simp [*, errW_none, errW_some] <;> rfl), by repeat (first | (with_reducible first | exact HB.out | apply below_alloc | apply pw_below_drewN | apply below_drew1 | refine below_set ?_ (IsS75.ge HI136.out)) | exact HB.out)⟩
  ·rw [if_neg c5] at H
   have c5b0 : (t153 == 1) = false := beq_eq_false_iff_ne.mpr c5
   have c5b1 : (t153 != 1) = true := bne_iff_ne.mpr c5
   obtain rfl := Option.some.inj H
   go_enter Try.func26, Try.ntmps26
   go_wp2_with (first | ((with_reducible refine gate_callee (f := 21) rfl ?_); refine goesL_ (some 5) rfl rfl Try.func21 (by kernel_rfl) rfl #[] rfl (by (try simp only [List.map_toArray, List.map_cons, List.map_nil]); first | done | rfl | (simp only [List.length_drop, List.length_take]; rfl)) ?_; (with_reducible refine (probe_New.calls  t121 t122 t123 t124 t125 t126 t127 t128 t129 t130 t131 t132 t133 t134 t135 _ _ (Below.refl _ _) A1.out).mono ?_); rintro e w26 ⟨g136, rfl, hi, hb, hb2⟩; refine ⟨_, rfl, ?_⟩; have n0_ := Aside0.mk (below_step (by repeat (first | (with_reducible first | exact HB.out | apply below_alloc | apply pw_below_drewN | apply below_drew1) | exact HB.out)) hb2); have n1_ := Aside0.mk ((IsS75.rebase hi (below_size (by repeat (first | (with_reducible first | exact HB.out | apply below_alloc | apply pw_below_drewN | apply below_drew1) | exact HB.out))))); clear HB; have HB := n0_; have HI136 := n1_; clear n0_ n1_; (try clear hb); (try clear hb2); (try clear hk); (try clear hi)) | (go_at_call 23; (with_reducible refine (probe_Probe_Start.calls g136 t121 t122 t123 t124 t125 t126 t127 t128 t129 t130 t131 t132 t133 t134 t135 8000000 t137 t138 t139 t140 t141 t142 t143 t144 t145 t146 t147 t148 t149 t150 t151 t152 w _ ?side1 ?side2 A2.out).mono ?_); (case side1 => repeat (first | (with_reducible first | exact HI136.out | apply IsS75.alloc | apply IsS75.drewN | apply IsS75.drew | apply IsS75.set_0 | apply IsS75.set_1 | apply IsS75.set_2 | apply IsS75.set_3 | apply IsS75.set_4 | apply IsS75.set_5 | apply IsS75.set_6 | apply IsS75.set_7 | apply IsS75.set_8 | apply IsS75.set_9 | apply IsS75.set_10 | apply IsS75.set_11 | apply IsS75.set_12 | apply IsS75.set_13 | apply IsS75.set_14) | exact HI136.out)); (case side2 => repeat (first | (with_reducible first | exact HB.out | apply below_alloc | apply pw_below_drewN | apply below_drew1 | refine below_set ?_ (IsS75.ge HI136.out)) | exact HB.out)); rintro e w27 ⟨rfl, hi, hb, hk⟩; have n0_ := Aside0.mk (hb); have n1_ := Aside0.mk (hi); clear HB; clear HI136; have HB := n0_; have HI136 := n1_; clear n0_ n1_; (try clear hb); (try clear hb2); (try clear hk); (try clear hi)) | ((with_reducible refine gate_callee (f := 24) rfl ?_); refine goesL_ (some 15) rfl rfl Try.func24 (by kernel_rfl) rfl #[.pointer (some ⟨g136, 0, none⟩)] rfl (by (try simp only [List.map_toArray, List.map_cons, List.map_nil]); first | done | rfl | (simp only [List.length_drop, List.length_take]; rfl)) ?_; (with_reducible refine (probe_Probe_Open.calls g136 t138 t139 t140 t141 t142 t143 t144 t145 t146 t147 t148 t149 t150 t151 t152 t153 t154 t155 t156 t157 t158 t159 t160 t161 t162 t163 t164 t165 t166 t167 t168 t169 t170 w _ ?side1 ?side2 A4.out).mono ?_); (case side1 => repeat (first | (with_reducible first | exact HI136.out | apply IsS75.alloc | apply IsS75.drewN | apply IsS75.drew | apply IsS75.set_0 | apply IsS75.set_1 | apply IsS75.set_2 | apply IsS75.set_3 | apply IsS75.set_4 | apply IsS75.set_5 | apply IsS75.set_6 | apply IsS75.set_7 | apply IsS75.set_8 | apply IsS75.set_9 | apply IsS75.set_10 | apply IsS75.set_11 | apply IsS75.set_12 | apply IsS75.set_13 | apply IsS75.set_14) | exact HI136.out)); (case side2 => repeat (first | (with_reducible first | exact HB.out | apply below_alloc | apply pw_below_drewN | apply below_drew1 | refine below_set ?_ (IsS75.ge HI136.out)) | exact HB.out)); rintro e w28 ⟨rfl, hi, hb, hk⟩; refine ⟨_, rfl, ?_⟩; have n0_ := Aside0.mk (hb); have n1_ := Aside0.mk (hi); clear HB; clear HI136; have HB := n0_; have HI136 := n1_; clear n0_ n1_; (try clear hb); (try clear hb2); (try clear hk); (try clear hi)))
   go_ret
   exact ⟨by first | rfl | (simp [errW_none, errW_some] <;> rfl) | (simp [*, errW_none, errW_some] <;> rfl), by repeat (first | (with_reducible first | exact HB.out | apply below_alloc | apply pw_below_drewN | apply below_drew1 | refine below_set ?_ (IsS75.ge HI136.out)) | exact HB.out)⟩
 ·rw [if_neg c3] at H
  have c3b0 : (t137 == 1) = false := beq_eq_false_iff_ne.mpr c3
  have c3b1 : (t137 != 1) = true := bne_iff_ne.mpr c3
  obtain rfl := Option.some.inj H
  go_enter Try.func26, Try.ntmps26
  go_wp2_with (first | ((with_reducible refine gate_callee (f := 21) rfl ?_); refine goesL_ (some 5) rfl rfl Try.func21 (by kernel_rfl) rfl #[] rfl (by (try simp only [List.map_toArray, List.map_cons, List.map_nil]); first | done | rfl | (simp only [List.length_drop, List.length_take]; rfl)) ?_; (with_reducible refine (probe_New.calls  t121 t122 t123 t124 t125 t126 t127 t128 t129 t130 t131 t132 t133 t134 t135 _ _ (Below.refl _ _) A1.out).mono ?_); rintro e w29 ⟨g136, rfl, hi, hb, hb2⟩; refine ⟨_, rfl, ?_⟩; have n0_ := Aside0.mk (below_step (by repeat (first | (with_reducible first | exact HB.out | apply below_alloc | apply pw_below_drewN | apply below_drew1) | exact HB.out)) hb2); have n1_ := Aside0.mk ((IsS75.rebase hi (below_size (by repeat (first | (with_reducible first | exact HB.out | apply below_alloc | apply pw_below_drewN | apply below_drew1) | exact HB.out))))); clear HB; have HB := n0_; have HI136 := n1_; clear n0_ n1_; (try clear hb); (try clear hb2); (try clear hk); (try clear hi)) | (go_at_call 23; (with_reducible refine (probe_Probe_Start.calls g136 t121 t122 t123 t124 t125 t126 t127 t128 t129 t130 t131 t132 t133 t134 t135 8000000 t137 t138 t139 t140 t141 t142 t143 t144 t145 t146 t147 t148 t149 t150 t151 t152 w _ ?side1 ?side2 A2.out).mono ?_); (case side1 => repeat (first | (with_reducible first | exact HI136.out | apply IsS75.alloc | apply IsS75.drewN | apply IsS75.drew | apply IsS75.set_0 | apply IsS75.set_1 | apply IsS75.set_2 | apply IsS75.set_3 | apply IsS75.set_4 | apply IsS75.set_5 | apply IsS75.set_6 | apply IsS75.set_7 | apply IsS75.set_8 | apply IsS75.set_9 | apply IsS75.set_10 | apply IsS75.set_11 | apply IsS75.set_12 | apply IsS75.set_13 | apply IsS75.set_14) | exact HI136.out)); (case side2 => repeat (first | (with_reducible first | exact HB.out | apply below_alloc | apply pw_below_drewN | apply below_drew1 | refine below_set ?_ (IsS75.ge HI136.out)) | exact HB.out)); rintro e w30 ⟨rfl, hi, hb, hk⟩; have n0_ := Aside0.mk (hb); have n1_ := Aside0.mk (hi); clear HB; clear HI136; have HB := n0_; have HI136 := n1_; clear n0_ n1_; (try clear hb); (try clear hb2); (try clear hk); (try clear hi)))
  go_ret
  exact ⟨by first | rfl | (simp [errW_none, errW_some] <;> rfl) | (simp [*, errW_none, errW_some] <;> rfl), by repeat (first | (with_reducible first | exact HB.out | apply below_alloc | apply pw_below_drewN | apply below_drew1 | refine below_set ?_ (IsS75.ge HI136.out)) | exact HB.out)⟩
end Go.Proofs.Ytlgfnclgkhfhpaa.P
end

section
namespace Go.Proofs.Ytlgfnclgkhfhpaa.P
open Go.RowKit Go.Proofs.YtlgfnclgkhfhpaaW.PrintWords Go.Proofs.YtlgfnclgkhfhpaaW.PrintLast Go.Proofs.YtlgfnclgkhfhpaaW.PrintMore
attribute [local go_sem] max2_int min2_int max_two min_two max_three min_three max_four min_four   -- for this text's walks alone
set_option linter.unusedVariables false
set_option linter.unusedSimpArgs false
mutual
def flywheellaw26_ProbeFew.l0 : Nat → List (S42) → Int → Int → Int → Int → Int → Int → Int → Int → Int → Int → Int → Int → Int → Int → Int → Int → Int → Int → Int → Option (Bool)
 | 0, _, _, _, _, _, _, _, _, _, _, _, _, _, _, _, _, _, _, _, _ => none
 | k + 1, x1, x2, x11, x12, x13, x219000, x219001, x219002, x219003, x219004, x219005, x219006, x219007, x219008, x219009, x219010, x219011, x219012, x219013, x219014 => if x13 < (x1.length : Int) then (flywheellaw26_ProbeFew.j1 k x1 x2 x11 x12 x13 (decide (x13 < 60)) x219000 x219001 x219002 x219003 x219004 x219005 x219006 x219007 x219008 x219009 x219010 x219011 x219012 x219013 x219014) else (flywheellaw26_ProbeFew.j1 k x1 x2 x11 x12 x13 false x219000 x219001 x219002 x219003 x219004 x219005 x219006 x219007 x219008 x219009 x219010 x219011 x219012 x219013 x219014)
def flywheellaw26_ProbeFew.j1 : Nat → List (S42) → Int → Int → Int → Int → Bool → Int → Int → Int → Int → Int → Int → Int → Int → Int → Int → Int → Int → Int → Int → Int → Option (Bool)
 | 0, _, _, _, _, _, _, _, _, _, _, _, _, _, _, _, _, _, _, _, _, _ => none
 | k + 1, x1, x2, x11, x12, x13, x37, x219000, x219001, x219002, x219003, x219004, x219005, x219006, x219007, x219008, x219009, x219010, x219011, x219012, x219013, x219014 => if x37 = true then (if 0 ≤ x13 then (if x13 < (x1.length : Int) then ((flywheelkeep_Mod.f ((rd_T42 x1 x13).f2) 1500).bind fun t273 => ((flywheelkeep_Mod64.f ((rd_T42 x1 x13).f4) 1099511627776).bind fun t275 => ((probe_Probe_Got.f k x219000 x219001 x219002 x219003 x219004 x219005 x219006 x219007 x219008 x219009 x219010 x219011 x219012 x219013 x219014 1 (wrap64 (1 + t273)) t275 (Int.tmod ((rd_T42 x1 x13).f5) 1099511627776)).bind fun bt277 => (if bt277.1 < 0 then (some false) else (if bt277.1 > 0 then (if x13 < 3 then (some false) else (if (wrap64 (x12 + (wrap64 (1 + t273)))) < (wrap64 (Int.tdiv x11 2)) then (some false) else (flywheellaw26_ProbeFew.l0 k x1 x2 x11 (wrap64 (x12 + (wrap64 (1 + t273)))) (wrap64 (x13 + 1)) bt277.2.1 bt277.2.2.1 bt277.2.2.2.1 bt277.2.2.2.2.1 bt277.2.2.2.2.2.1 bt277.2.2.2.2.2.2.1 bt277.2.2.2.2.2.2.2.1 bt277.2.2.2.2.2.2.2.2.1 bt277.2.2.2.2.2.2.2.2.2.1 bt277.2.2.2.2.2.2.2.2.2.2.1 bt277.2.2.2.2.2.2.2.2.2.2.2.1 bt277.2.2.2.2.2.2.2.2.2.2.2.2.1 bt277.2.2.2.2.2.2.2.2.2.2.2.2.2.1 bt277.2.2.2.2.2.2.2.2.2.2.2.2.2.2.1 bt277.2.2.2.2.2.2.2.2.2.2.2.2.2.2.2))) else (flywheellaw26_ProbeFew.l0 k x1 x2 x11 (wrap64 (x12 + (wrap64 (1 + t273)))) (wrap64 (x13 + 1)) bt277.2.1 bt277.2.2.1 bt277.2.2.2.1 bt277.2.2.2.2.1 bt277.2.2.2.2.2.1 bt277.2.2.2.2.2.2.1 bt277.2.2.2.2.2.2.2.1 bt277.2.2.2.2.2.2.2.2.1 bt277.2.2.2.2.2.2.2.2.2.1 bt277.2.2.2.2.2.2.2.2.2.2.1 bt277.2.2.2.2.2.2.2.2.2.2.2.1 bt277.2.2.2.2.2.2.2.2.2.2.2.2.1 bt277.2.2.2.2.2.2.2.2.2.2.2.2.2.1 bt277.2.2.2.2.2.2.2.2.2.2.2.2.2.2.1 bt277.2.2.2.2.2.2.2.2.2.2.2.2.2.2.2)))))) else (none)) else (none)) else (if x2 = 1 then ((flywheellaw26_wakes.f).bind fun t254 => (some t254)) else ((probe_Probe_Got.f k x219000 x219001 x219002 x219003 x219004 x219005 x219006 x219007 x219008 x219009 x219010 x219011 x219012 x219013 x219014 x2 1200 5 5).bind fun bt255 => (if bt255.1 = 0 then ((flywheellaw26_wakes.f).bind fun t271 => (some t271)) else (some false))))
end
def flywheellaw26_ProbeFew.f (k : Nat) (a0 : Int) (l1 : List (S42)) (a2 : Int) : Option (Bool) := (probe_New.f).bind fun bt203 => ((flywheelkeep_Mod64.f a0 17179869184).bind fun t219 => ((probe_Probe_Start.f bt203.1 bt203.2.1 bt203.2.2.1 bt203.2.2.2.1 bt203.2.2.2.2.1 bt203.2.2.2.2.2.1 bt203.2.2.2.2.2.2.1 bt203.2.2.2.2.2.2.2.1 bt203.2.2.2.2.2.2.2.2.1 bt203.2.2.2.2.2.2.2.2.2.1 bt203.2.2.2.2.2.2.2.2.2.2.1 bt203.2.2.2.2.2.2.2.2.2.2.2.1 bt203.2.2.2.2.2.2.2.2.2.2.2.2.1 bt203.2.2.2.2.2.2.2.2.2.2.2.2.2.1 bt203.2.2.2.2.2.2.2.2.2.2.2.2.2.2 (wrap64 (1 + t219))).bind fun bt220 => (if bt220.1 = 1 then ((probe_Probe_Open.f bt220.2.1 bt220.2.2.1 bt220.2.2.2.1 bt220.2.2.2.2.1 bt220.2.2.2.2.2.1 bt220.2.2.2.2.2.2.1 bt220.2.2.2.2.2.2.2.1 bt220.2.2.2.2.2.2.2.2.1 bt220.2.2.2.2.2.2.2.2.2.1 bt220.2.2.2.2.2.2.2.2.2.2.1 bt220.2.2.2.2.2.2.2.2.2.2.2.1 bt220.2.2.2.2.2.2.2.2.2.2.2.2.1 bt220.2.2.2.2.2.2.2.2.2.2.2.2.2.1 bt220.2.2.2.2.2.2.2.2.2.2.2.2.2.2.1 bt220.2.2.2.2.2.2.2.2.2.2.2.2.2.2.2).bind fun bt236 => (flywheellaw26_ProbeFew.l0 k l1 a2 bt236.2.2.1 0 0 bt236.2.2.2.1 bt236.2.2.2.2.1 bt236.2.2.2.2.2.1 bt236.2.2.2.2.2.2.1 bt236.2.2.2.2.2.2.2.1 bt236.2.2.2.2.2.2.2.2.1 bt236.2.2.2.2.2.2.2.2.2.1 bt236.2.2.2.2.2.2.2.2.2.2.1 bt236.2.2.2.2.2.2.2.2.2.2.2.1 bt236.2.2.2.2.2.2.2.2.2.2.2.2.1 bt236.2.2.2.2.2.2.2.2.2.2.2.2.2.1 bt236.2.2.2.2.2.2.2.2.2.2.2.2.2.2.1 bt236.2.2.2.2.2.2.2.2.2.2.2.2.2.2.2.1 bt236.2.2.2.2.2.2.2.2.2.2.2.2.2.2.2.2.1 bt236.2.2.2.2.2.2.2.2.2.2.2.2.2.2.2.2.2)) else (some false))))
def flywheellaw26_ProbeFew.T12 : Bool × List (List Nat × List Nat) := (true, [([], []), ([], []), ([], []), ([], []), ([2, 3], [2, 3]), ([4], [4]), ([5], [5]), ([6], [6]), ([], []), ([], []), ([8, 9], [8, 9]), ([10], [10]), ([11], [11]), ([12], [12]), ([0, 1, 7, 13, 7], [0, 1, 7, 13]), ([14, 14, 0, 1, 2, 3, 4, 5, 6, 7, 8, 9, 10, 11, 12, 13, 14], [14])])
def flywheellaw26_ProbeFew.B12 : List Nat := [0, 0, 0, 0, 12, 28, 60, 124, 0, 0, 768, 1792, 3840, 7936, 16383, 32767]
theorem flywheellaw26_ProbeFew.tab12 : rtab .any (opsOf Try.f5 12) = flywheellaw26_ProbeFew.T12 := by kernel_rfl
theorem flywheellaw26_ProbeFew.bits12 : waitsOk flywheellaw26_ProbeFew.T12.2 flywheellaw26_ProbeFew.B12 = true := by kernel_rfl
set_option maxHeartbeats 8000000 in
set_option maxRecDepth 100000 in
theorem flywheellaw26_ProbeFew.calls (k : Nat) (a0 : Int) (A1 : Option Addr) (c1 : Nat) (l1 : List (S42)) (a2 : Int) (r : Bool) (w : World) (hr1 : Kd.C k42 w A1 l1.length l1) (hc1 : l1.length ≤ c1) (h : flywheellaw26_ProbeFew.f k a0 l1 a2 = some r) :
  Calls Try.prog 5 #[.int .i64 a0, .slice A1 l1.length c1, .int .i64 a2] w fun e w' => e = .returned (.bool r) ∧ Below w.heap.size w w' := by
 have HR1 := Aside0.mk hr1
 have HC1 := Aside0.mk hc1
 clear hr1 hc1
 have HB := Aside0.mk (Below.refl w.heap.size w)
 have H : ((probe_New.f).bind fun bt203 => ((flywheelkeep_Mod64.f a0 17179869184).bind fun t219 => ((probe_Probe_Start.f bt203.1 bt203.2.1 bt203.2.2.1 bt203.2.2.2.1 bt203.2.2.2.2.1 bt203.2.2.2.2.2.1 bt203.2.2.2.2.2.2.1 bt203.2.2.2.2.2.2.2.1 bt203.2.2.2.2.2.2.2.2.1 bt203.2.2.2.2.2.2.2.2.2.1 bt203.2.2.2.2.2.2.2.2.2.2.1 bt203.2.2.2.2.2.2.2.2.2.2.2.1 bt203.2.2.2.2.2.2.2.2.2.2.2.2.1 bt203.2.2.2.2.2.2.2.2.2.2.2.2.2.1 bt203.2.2.2.2.2.2.2.2.2.2.2.2.2.2 (wrap64 (1 + t219))).bind fun bt220 => (if bt220.1 = 1 then ((probe_Probe_Open.f bt220.2.1 bt220.2.2.1 bt220.2.2.2.1 bt220.2.2.2.2.1 bt220.2.2.2.2.2.1 bt220.2.2.2.2.2.2.1 bt220.2.2.2.2.2.2.2.1 bt220.2.2.2.2.2.2.2.2.1 bt220.2.2.2.2.2.2.2.2.2.1 bt220.2.2.2.2.2.2.2.2.2.2.1 bt220.2.2.2.2.2.2.2.2.2.2.2.1 bt220.2.2.2.2.2.2.2.2.2.2.2.2.1 bt220.2.2.2.2.2.2.2.2.2.2.2.2.2.1 bt220.2.2.2.2.2.2.2.2.2.2.2.2.2.2.1 bt220.2.2.2.2.2.2.2.2.2.2.2.2.2.2.2).bind fun bt236 => (flywheellaw26_ProbeFew.l0 k l1 a2 bt236.2.2.1 0 0 bt236.2.2.2.1 bt236.2.2.2.2.1 bt236.2.2.2.2.2.1 bt236.2.2.2.2.2.2.1 bt236.2.2.2.2.2.2.2.1 bt236.2.2.2.2.2.2.2.2.1 bt236.2.2.2.2.2.2.2.2.2.1 bt236.2.2.2.2.2.2.2.2.2.2.1 bt236.2.2.2.2.2.2.2.2.2.2.2.1 bt236.2.2.2.2.2.2.2.2.2.2.2.2.1 bt236.2.2.2.2.2.2.2.2.2.2.2.2.2.1 bt236.2.2.2.2.2.2.2.2.2.2.2.2.2.2.1 bt236.2.2.2.2.2.2.2.2.2.2.2.2.2.2.2.1 bt236.2.2.2.2.2.2.2.2.2.2.2.2.2.2.2.2.1 bt236.2.2.2.2.2.2.2.2.2.2.2.2.2.2.2.2.2)) else (some false))))) = some r := h
 clear h
 replace H := Option.bind_eq_some_iff.mp H
 obtain ⟨⟨t203, t204, t205, t206, t207, t208, t209, t210, t211, t212, t213, t214, t215, t216, t217⟩, A40, H⟩ := H
 replace H : ((flywheelkeep_Mod64.f a0 17179869184).bind fun t219 => ((probe_Probe_Start.f t203 t204 t205 t206 t207 t208 t209 t210 t211 t212 t213 t214 t215 t216 t217 (wrap64 (1 + t219))).bind fun bt220 => (if bt220.1 = 1 then ((probe_Probe_Open.f bt220.2.1 bt220.2.2.1 bt220.2.2.2.1 bt220.2.2.2.2.1 bt220.2.2.2.2.2.1 bt220.2.2.2.2.2.2.1 bt220.2.2.2.2.2.2.2.1 bt220.2.2.2.2.2.2.2.2.1 bt220.2.2.2.2.2.2.2.2.2.1 bt220.2.2.2.2.2.2.2.2.2.2.1 bt220.2.2.2.2.2.2.2.2.2.2.2.1 bt220.2.2.2.2.2.2.2.2.2.2.2.2.1 bt220.2.2.2.2.2.2.2.2.2.2.2.2.2.1 bt220.2.2.2.2.2.2.2.2.2.2.2.2.2.2.1 bt220.2.2.2.2.2.2.2.2.2.2.2.2.2.2.2).bind fun bt236 => (flywheellaw26_ProbeFew.l0 k l1 a2 bt236.2.2.1 0 0 bt236.2.2.2.1 bt236.2.2.2.2.1 bt236.2.2.2.2.2.1 bt236.2.2.2.2.2.2.1 bt236.2.2.2.2.2.2.2.1 bt236.2.2.2.2.2.2.2.2.1 bt236.2.2.2.2.2.2.2.2.2.1 bt236.2.2.2.2.2.2.2.2.2.2.1 bt236.2.2.2.2.2.2.2.2.2.2.2.1 bt236.2.2.2.2.2.2.2.2.2.2.2.2.1 bt236.2.2.2.2.2.2.2.2.2.2.2.2.2.1 bt236.2.2.2.2.2.2.2.2.2.2.2.2.2.2.1 bt236.2.2.2.2.2.2.2.2.2.2.2.2.2.2.2.1 bt236.2.2.2.2.2.2.2.2.2.2.2.2.2.2.2.2.1 bt236.2.2.2.2.2.2.2.2.2.2.2.2.2.2.2.2.2)) else (some false)))) = some r := H
 have A4 := Aside0.mk A40
 clear A40
 replace H := Option.bind_eq_some_iff.mp H
 obtain ⟨t219, A50, H⟩ := H
 replace H : ((probe_Probe_Start.f t203 t204 t205 t206 t207 t208 t209 t210 t211 t212 t213 t214 t215 t216 t217 (wrap64 (1 + t219))).bind fun bt220 => (if bt220.1 = 1 then ((probe_Probe_Open.f bt220.2.1 bt220.2.2.1 bt220.2.2.2.1 bt220.2.2.2.2.1 bt220.2.2.2.2.2.1 bt220.2.2.2.2.2.2.1 bt220.2.2.2.2.2.2.2.1 bt220.2.2.2.2.2.2.2.2.1 bt220.2.2.2.2.2.2.2.2.2.1 bt220.2.2.2.2.2.2.2.2.2.2.1 bt220.2.2.2.2.2.2.2.2.2.2.2.1 bt220.2.2.2.2.2.2.2.2.2.2.2.2.1 bt220.2.2.2.2.2.2.2.2.2.2.2.2.2.1 bt220.2.2.2.2.2.2.2.2.2.2.2.2.2.2.1 bt220.2.2.2.2.2.2.2.2.2.2.2.2.2.2.2).bind fun bt236 => (flywheellaw26_ProbeFew.l0 k l1 a2 bt236.2.2.1 0 0 bt236.2.2.2.1 bt236.2.2.2.2.1 bt236.2.2.2.2.2.1 bt236.2.2.2.2.2.2.1 bt236.2.2.2.2.2.2.2.1 bt236.2.2.2.2.2.2.2.2.1 bt236.2.2.2.2.2.2.2.2.2.1 bt236.2.2.2.2.2.2.2.2.2.2.1 bt236.2.2.2.2.2.2.2.2.2.2.2.1 bt236.2.2.2.2.2.2.2.2.2.2.2.2.1 bt236.2.2.2.2.2.2.2.2.2.2.2.2.2.1 bt236.2.2.2.2.2.2.2.2.2.2.2.2.2.2.1 bt236.2.2.2.2.2.2.2.2.2.2.2.2.2.2.2.1 bt236.2.2.2.2.2.2.2.2.2.2.2.2.2.2.2.2.1 bt236.2.2.2.2.2.2.2.2.2.2.2.2.2.2.2.2.2)) else (some false))) = some r := H
 have A5 := Aside0.mk A50
 clear A50
 replace H := Option.bind_eq_some_iff.mp H
 obtain ⟨⟨t220, t221, t222, t223, t224, t225, t226, t227, t228, t229, t230, t231, t232, t233, t234, t235⟩, A60, H⟩ := H
 replace H : (if t220 = 1 then ((probe_Probe_Open.f t221 t222 t223 t224 t225 t226 t227 t228 t229 t230 t231 t232 t233 t234 t235).bind fun bt236 => (flywheellaw26_ProbeFew.l0 k l1 a2 bt236.2.2.1 0 0 bt236.2.2.2.1 bt236.2.2.2.2.1 bt236.2.2.2.2.2.1 bt236.2.2.2.2.2.2.1 bt236.2.2.2.2.2.2.2.1 bt236.2.2.2.2.2.2.2.2.1 bt236.2.2.2.2.2.2.2.2.2.1 bt236.2.2.2.2.2.2.2.2.2.2.1 bt236.2.2.2.2.2.2.2.2.2.2.2.1 bt236.2.2.2.2.2.2.2.2.2.2.2.2.1 bt236.2.2.2.2.2.2.2.2.2.2.2.2.2.1 bt236.2.2.2.2.2.2.2.2.2.2.2.2.2.2.1 bt236.2.2.2.2.2.2.2.2.2.2.2.2.2.2.2.1 bt236.2.2.2.2.2.2.2.2.2.2.2.2.2.2.2.2.1 bt236.2.2.2.2.2.2.2.2.2.2.2.2.2.2.2.2.2)) else (some false)) = some r := H
 have A6 := Aside0.mk A60
 clear A60
 by_cases c7 : t220 = 1
 ·rw [if_pos c7] at H
  have c7b0 : (t220 == 1) = true := beq_iff_eq.mpr c7
  have c7b1 : (t220 != 1) = false := bne_eq_false_iff_eq.mpr c7
  clear c7
  replace H := Option.bind_eq_some_iff.mp H
  obtain ⟨⟨t236, t237, t238, t239, t240, t241, t242, t243, t244, t245, t246, t247, t248, t249, t250, t251, t252, t253⟩, A80, H⟩ := H
  replace H : (flywheellaw26_ProbeFew.l0 k l1 a2 t238 0 0 t239 t240 t241 t242 t243 t244 t245 t246 t247 t248 t249 t250 t251 t252 t253) = some r := H
  have A8 := Aside0.mk A80
  clear A80
  have H' := Aside0.mk H
  clear H
  go_enter Try.func5, Try.ntmps5
  go_wp2_with (first | ((with_reducible refine gate_callee (f := 21) rfl ?_); refine goesL_ (some 16) rfl rfl Try.func21 (by kernel_rfl) rfl #[] rfl (by (try simp only [List.map_toArray, List.map_cons, List.map_nil]); first | done | rfl | (simp only [List.length_drop, List.length_take]; rfl)) ?_; (with_reducible refine (probe_New.calls  t203 t204 t205 t206 t207 t208 t209 t210 t211 t212 t213 t214 t215 t216 t217 _ _ (Below.refl _ _) A4.out).mono ?_); rintro e w9 ⟨g218, rfl, hi, hb, hb2⟩; refine ⟨_, rfl, ?_⟩; have n0_ := Aside0.mk (below_step (by repeat (first | (with_reducible first | exact HB.out | apply below_alloc | apply pw_below_drewN | apply below_drew1) | exact HB.out)) hb2); have n1_ := Aside0.mk ((IsS75.rebase hi (below_size (by repeat (first | (with_reducible first | exact HB.out | apply below_alloc | apply pw_below_drewN | apply below_drew1) | exact HB.out))))); clear HB; have HB := n0_; have HI218 := n1_; clear n0_ n1_; (try clear hb); (try clear hb2); (try clear hk); (try clear hi)) | ((with_reducible refine gate_callee (f := 22) rfl ?_); refine goesL_ (some 18) rfl rfl Try.func22 (by kernel_rfl) rfl #[.int .i64 a0, .int .i64 17179869184] rfl (by (try simp only [List.map_toArray, List.map_cons, List.map_nil]); first | done | rfl | (simp only [List.length_drop, List.length_take]; rfl)) ?_; (with_reducible refine (flywheelkeep_Mod64.calls a0 17179869184 t219 _ A5.out).mono ?_); rintro e w' ⟨rfl, ⟨nd, rfl⟩⟩; refine ⟨_, rfl, ?_⟩) | ((with_reducible refine gate_callee (f := 23) rfl ?_); refine goesL_ (some 22) rfl rfl Try.func23 (by kernel_rfl) rfl #[.pointer (some ⟨g218, 0, none⟩), .int .i64 (wrap64 (1 + t219))] rfl (by (try simp only [List.map_toArray, List.map_cons, List.map_nil]); first | done | rfl | (simp only [List.length_drop, List.length_take]; rfl)) ?_; (with_reducible refine (probe_Probe_Start.calls g218 t203 t204 t205 t206 t207 t208 t209 t210 t211 t212 t213 t214 t215 t216 t217 (wrap64 (1 + t219)) t220 t221 t222 t223 t224 t225 t226 t227 t228 t229 t230 t231 t232 t233 t234 t235 w _ ?side1 ?side2 A6.out).mono ?_); (case side1 => repeat (first | (with_reducible first | exact HI218.out | apply IsS75.alloc | apply IsS75.drewN | apply IsS75.drew | apply IsS75.set_0 | apply IsS75.set_1 | apply IsS75.set_2 | apply IsS75.set_3 | apply IsS75.set_4 | apply IsS75.set_5 | apply IsS75.set_6 | apply IsS75.set_7 | apply IsS75.set_8 | apply IsS75.set_9 | apply IsS75.set_10 | apply IsS75.set_11 | apply IsS75.set_12 | apply IsS75.set_13 | apply IsS75.set_14) | exact HI218.out)); (case side2 => repeat (first | (with_reducible first | exact HB.out | apply below_alloc | apply pw_below_drewN | apply below_drew1 | refine below_set ?_ (IsS75.ge HI218.out)) | exact HB.out)); rintro e w10 ⟨rfl, hi, hb, hk⟩; refine ⟨_, rfl, ?_⟩; have n0_ := Aside0.mk (hb); have n1_ := Aside0.mk (hi); clear HB; clear HI218; have HB := n0_; have HI218 := n1_; clear n0_ n1_; (try clear hb); (try clear hb2); (try clear hk); (try clear hi)) | ((with_reducible refine gate_callee (f := 24) rfl ?_); refine goesL_ (some 26) rfl rfl Try.func24 (by kernel_rfl) rfl #[.pointer (some ⟨g218, 0, none⟩)] rfl (by (try simp only [List.map_toArray, List.map_cons, List.map_nil]); first | done | rfl | (simp only [List.length_drop, List.length_take]; rfl)) ?_; (with_reducible refine (probe_Probe_Open.calls g218 t221 t222 t223 t224 t225 t226 t227 t228 t229 t230 t231 t232 t233 t234 t235 t236 t237 t238 t239 t240 t241 t242 t243 t244 t245 t246 t247 t248 t249 t250 t251 t252 t253 w _ ?side1 ?side2 A8.out).mono ?_); (case side1 => repeat (first | (with_reducible first | exact HI218.out | apply IsS75.alloc | apply IsS75.drewN | apply IsS75.drew | apply IsS75.set_0 | apply IsS75.set_1 | apply IsS75.set_2 | apply IsS75.set_3 | apply IsS75.set_4 | apply IsS75.set_5 | apply IsS75.set_6 | apply IsS75.set_7 | apply IsS75.set_8 | apply IsS75.set_9 | apply IsS75.set_10 | apply IsS75.set_11 | apply IsS75.set_12 | apply IsS75.set_13 | apply IsS75.set_14) | exact HI218.out)); (case side2 => repeat (first | (with_reducible first | exact HB.out | apply below_alloc | apply pw_below_drewN | apply below_drew1 | refine below_set ?_ (IsS75.ge HI218.out)) | exact HB.out)); rintro e w11 ⟨rfl, hi, hb, hk⟩; refine ⟨_, rfl, ?_⟩; have n0_ := Aside0.mk (hb); have n1_ := Aside0.mk (hi); clear HB; clear HI218; have HB := n0_; have HI218 := n1_; clear n0_ n1_; (try clear hb); (try clear hb2); (try clear hk); (try clear hi)))
  go_loopg [12, 13] k (fun kq v12 v13 w' => ∃ (x12_1 : Int) (x13_1 : Int) (x219000_1 : Int) (x219001_1 : Int) (x219002_1 : Int) (x219003_1 : Int) (x219004_1 : Int) (x219005_1 : Int) (x219006_1 : Int) (x219007_1 : Int) (x219008_1 : Int) (x219009_1 : Int) (x219010_1 : Int) (x219011_1 : Int) (x219012_1 : Int) (x219013_1 : Int) (x219014_1 : Int), v12 = .int .i64 x12_1 ∧ v13 = .int .i64 x13_1 ∧ Aside0 (flywheellaw26_ProbeFew.l0 kq l1 a2 t238 x12_1 x13_1 x219000_1 x219001_1 x219002_1 x219003_1 x219004_1 x219005_1 x219006_1 x219007_1 x219008_1 x219009_1 x219010_1 x219011_1 x219012_1 x219013_1 x219014_1 = some r) ∧ Aside0 (kq ≤ k) ∧ Aside0 (IsS75 w w' g218 x219000_1 x219001_1 x219002_1 x219003_1 x219004_1 x219005_1 x219006_1 x219007_1 x219008_1 x219009_1 x219010_1 x219011_1 x219012_1 x219013_1 x219014_1) ∧ Aside0 (Below w.heap.size w w'))
  case atStart => exact ⟨(0), (0), (t239), (t240), (t241), (t242), (t243), (t244), (t245), (t246), (t247), (t248), (t249), (t250), (t251), (t252), (t253), (by first | rfl | (simp; done) | (simp [*]; done)), (by first | rfl | (simp; done) | (simp [*]; done)), H', ⟨Nat.le_refl _⟩, ⟨by repeat (first | (with_reducible first | exact HI218.out | apply IsS75.alloc | apply IsS75.drewN | apply IsS75.drew | apply IsS75.set_0 | apply IsS75.set_1 | apply IsS75.set_2 | apply IsS75.set_3 | apply IsS75.set_4 | apply IsS75.set_5 | apply IsS75.set_6 | apply IsS75.set_7 | apply IsS75.set_8 | apply IsS75.set_9 | apply IsS75.set_10 | apply IsS75.set_11 | apply IsS75.set_12 | apply IsS75.set_13 | apply IsS75.set_14) | exact HI218.out)⟩, ⟨by repeat (first | (with_reducible first | exact HB.out | apply below_alloc | apply pw_below_drewN | apply below_drew1 | refine below_set ?_ (IsS75.ge HI218.out)) | exact HB.out)⟩⟩
  case round =>
   clear H'
   try clear c1
   try clear c2
   try clear p2
   try clear c5
   try clear p6
   try clear c7
   try clear c7b0
   try clear c7b1
   obtain ⟨x12_1, x13_1, x219000_1, x219001_1, x219002_1, x219003_1, x219004_1, x219005_1, x219006_1, x219007_1, x219008_1, x219009_1, x219010_1, x219011_1, x219012_1, x219013_1, x219014_1, rfl, rfl, HA, HK1, HI218, HB⟩ := hrel
   cases gk with
   | zero => exact absurd HA.out (by simp [flywheellaw26_ProbeFew.l0])
   | succ k1 =>
    have H := HA.out
    clear HA
    simp only [flywheellaw26_ProbeFew.l0] at H
    have HC12 := Aside0.mk H
    clear H
    go_upto_region 8 with (fail)
    go_cut [37] (fun v37 wc => ∃ (kq : Nat) (x37_11 : Bool), v37 = .bool x37_11 ∧ Aside0 (flywheellaw26_ProbeFew.j1 kq l1 a2 t238 x12_1 x13_1 x37_11 x219000_1 x219001_1 x219002_1 x219003_1 x219004_1 x219005_1 x219006_1 x219007_1 x219008_1 x219009_1 x219010_1 x219011_1 x219012_1 x219013_1 x219014_1 = some r) ∧ Aside0 (kq ≤ k1) ∧ Aside0 (IsS75 w wc g218 x219000_1 x219001_1 x219002_1 x219003_1 x219004_1 x219005_1 x219006_1 x219007_1 x219008_1 x219009_1 x219010_1 x219011_1 x219012_1 x219013_1 x219014_1) ∧ Aside0 (Below w.heap.size w wc))
    case first =>
     have H := HC12.out
     clear HC12
     by_cases c13 : x13_1 < (l1.length : Int)
     ·rw [if_pos c13] at H
      have c13b0 : decide (x13_1 < (l1.length : Int)) = true := decide_eq_true c13
      clear c13
      (first | rw [c13b0] | (simp only [i64_w, i32_w]; rw [c13b0]) | skip)
      have H' := Aside0.mk H
      clear H
      go_wp2
      go_meet
      case rel => exact ⟨_, (decide (x13_1 < 60)), (by first | rfl | (simp; done) | (simp [*]; done)), H', ⟨by have := HK1.out; first | omega | exact Nat.le_refl _⟩, ⟨by repeat (first | (with_reducible first | exact HI218.out | apply IsS75.alloc | apply IsS75.drewN | apply IsS75.drew | apply IsS75.set_0 | apply IsS75.set_1 | apply IsS75.set_2 | apply IsS75.set_3 | apply IsS75.set_4 | apply IsS75.set_5 | apply IsS75.set_6 | apply IsS75.set_7 | apply IsS75.set_8 | apply IsS75.set_9 | apply IsS75.set_10 | apply IsS75.set_11 | apply IsS75.set_12 | apply IsS75.set_13 | apply IsS75.set_14) | exact HI218.out)⟩, ⟨by repeat (first | (with_reducible first | exact HB.out | apply below_alloc | apply pw_below_drewN | apply below_drew1 | refine below_set ?_ (IsS75.ge HI218.out)) | exact HB.out)⟩⟩
     ·rw [if_neg c13] at H
      have c13b0 : decide (x13_1 < (l1.length : Int)) = false := decide_eq_false c13
      clear c13
      (first | rw [c13b0] | (simp only [i64_w, i32_w]; rw [c13b0]) | skip)
      have H' := Aside0.mk H
      clear H
      go_wp2
      go_meet
      case rel => exact ⟨_, (false), (by first | rfl | (simp; done) | (simp [*]; done)), H', ⟨by have := HK1.out; first | omega | exact Nat.le_refl _⟩, ⟨by repeat (first | (with_reducible first | exact HI218.out | apply IsS75.alloc | apply IsS75.drewN | apply IsS75.drew | apply IsS75.set_0 | apply IsS75.set_1 | apply IsS75.set_2 | apply IsS75.set_3 | apply IsS75.set_4 | apply IsS75.set_5 | apply IsS75.set_6 | apply IsS75.set_7 | apply IsS75.set_8 | apply IsS75.set_9 | apply IsS75.set_10 | apply IsS75.set_11 | apply IsS75.set_12 | apply IsS75.set_13 | apply IsS75.set_14) | exact HI218.out)⟩, ⟨by repeat (first | (with_reducible first | exact HB.out | apply below_alloc | apply pw_below_drewN | apply below_drew1 | refine below_set ?_ (IsS75.ge HI218.out)) | exact HB.out)⟩⟩
    case rest =>
     clear HC12
     try clear c1
     try clear c2
     try clear p2
     try clear c5
     try clear p6
     try clear c7
     try clear c7b0
     try clear c7b1
     try clear c13
     try clear c13b0
     try clear p2
     try clear p6
     obtain ⟨kq, x37_11, rfl, HA, HJ11, HI218, HB⟩ := hcut
     cases kq with
     | zero => exact absurd HA.out (by simp [flywheellaw26_ProbeFew.j1])
     | succ kj11 =>
      have H := HA.out
      clear HA
      simp only [flywheellaw26_ProbeFew.j1] at H
      by_cases c14 : x37_11 = true
      ·subst c14
       have H1 : (if 0 ≤ x13_1 then (if x13_1 < (l1.length : Int) then ((flywheelkeep_Mod.f ((rd_T42 l1 x13_1).f2) 1500).bind fun t273 => ((flywheelkeep_Mod64.f ((rd_T42 l1 x13_1).f4) 1099511627776).bind fun t275 => ((probe_Probe_Got.f kj11 x219000_1 x219001_1 x219002_1 x219003_1 x219004_1 x219005_1 x219006_1 x219007_1 x219008_1 x219009_1 x219010_1 x219011_1 x219012_1 x219013_1 x219014_1 1 (wrap64 (1 + t273)) t275 (Int.tmod ((rd_T42 l1 x13_1).f5) 1099511627776)).bind fun bt277 => (if bt277.1 < 0 then (some false) else (if bt277.1 > 0 then (if x13_1 < 3 then (some false) else (if (wrap64 (x12_1 + (wrap64 (1 + t273)))) < (wrap64 (Int.tdiv t238 2)) then (some false) else (flywheellaw26_ProbeFew.l0 kj11 l1 a2 t238 (wrap64 (x12_1 + (wrap64 (1 + t273)))) (wrap64 (x13_1 + 1)) bt277.2.1 bt277.2.2.1 bt277.2.2.2.1 bt277.2.2.2.2.1 bt277.2.2.2.2.2.1 bt277.2.2.2.2.2.2.1 bt277.2.2.2.2.2.2.2.1 bt277.2.2.2.2.2.2.2.2.1 bt277.2.2.2.2.2.2.2.2.2.1 bt277.2.2.2.2.2.2.2.2.2.2.1 bt277.2.2.2.2.2.2.2.2.2.2.2.1 bt277.2.2.2.2.2.2.2.2.2.2.2.2.1 bt277.2.2.2.2.2.2.2.2.2.2.2.2.2.1 bt277.2.2.2.2.2.2.2.2.2.2.2.2.2.2.1 bt277.2.2.2.2.2.2.2.2.2.2.2.2.2.2.2))) else (flywheellaw26_ProbeFew.l0 kj11 l1 a2 t238 (wrap64 (x12_1 + (wrap64 (1 + t273)))) (wrap64 (x13_1 + 1)) bt277.2.1 bt277.2.2.1 bt277.2.2.2.1 bt277.2.2.2.2.1 bt277.2.2.2.2.2.1 bt277.2.2.2.2.2.2.1 bt277.2.2.2.2.2.2.2.1 bt277.2.2.2.2.2.2.2.2.1 bt277.2.2.2.2.2.2.2.2.2.1 bt277.2.2.2.2.2.2.2.2.2.2.1 bt277.2.2.2.2.2.2.2.2.2.2.2.1 bt277.2.2.2.2.2.2.2.2.2.2.2.2.1 bt277.2.2.2.2.2.2.2.2.2.2.2.2.2.1 bt277.2.2.2.2.2.2.2.2.2.2.2.2.2.2.1 bt277.2.2.2.2.2.2.2.2.2.2.2.2.2.2.2)))))) else (none)) else (none)) = some r := by rw [if_pos rfl] at H; exact H
       clear H
       have H := H1
       clear H1
       by_cases c15 : 0 ≤ x13_1
       ·rw [if_pos c15] at H
        have c15b0 : decide (0 ≤ x13_1) = true := decide_eq_true c15
        clear c15
        by_cases c16 : x13_1 < (l1.length : Int)
        ·rw [if_pos c16] at H
         have c16b0 : decide (x13_1 < (l1.length : Int)) = true := decide_eq_true c16
         clear c16
         replace H := Option.bind_eq_some_iff.mp H
         obtain ⟨t273, A170, H⟩ := H
         replace H : ((flywheelkeep_Mod64.f ((rd_T42 l1 x13_1).f4) 1099511627776).bind fun t275 => ((probe_Probe_Got.f kj11 x219000_1 x219001_1 x219002_1 x219003_1 x219004_1 x219005_1 x219006_1 x219007_1 x219008_1 x219009_1 x219010_1 x219011_1 x219012_1 x219013_1 x219014_1 1 (wrap64 (1 + t273)) t275 (Int.tmod ((rd_T42 l1 x13_1).f5) 1099511627776)).bind fun bt277 => (if bt277.1 < 0 then (some false) else (if bt277.1 > 0 then (if x13_1 < 3 then (some false) else (if (wrap64 (x12_1 + (wrap64 (1 + t273)))) < (wrap64 (Int.tdiv t238 2)) then (some false) else (flywheellaw26_ProbeFew.l0 kj11 l1 a2 t238 (wrap64 (x12_1 + (wrap64 (1 + t273)))) (wrap64 (x13_1 + 1)) bt277.2.1 bt277.2.2.1 bt277.2.2.2.1 bt277.2.2.2.2.1 bt277.2.2.2.2.2.1 bt277.2.2.2.2.2.2.1 bt277.2.2.2.2.2.2.2.1 bt277.2.2.2.2.2.2.2.2.1 bt277.2.2.2.2.2.2.2.2.2.1 bt277.2.2.2.2.2.2.2.2.2.2.1 bt277.2.2.2.2.2.2.2.2.2.2.2.1 bt277.2.2.2.2.2.2.2.2.2.2.2.2.1 bt277.2.2.2.2.2.2.2.2.2.2.2.2.2.1 bt277.2.2.2.2.2.2.2.2.2.2.2.2.2.2.1 bt277.2.2.2.2.2.2.2.2.2.2.2.2.2.2.2))) else (flywheellaw26_ProbeFew.l0 kj11 l1 a2 t238 (wrap64 (x12_1 + (wrap64 (1 + t273)))) (wrap64 (x13_1 + 1)) bt277.2.1 bt277.2.2.1 bt277.2.2.2.1 bt277.2.2.2.2.1 bt277.2.2.2.2.2.1 bt277.2.2.2.2.2.2.1 bt277.2.2.2.2.2.2.2.1 bt277.2.2.2.2.2.2.2.2.1 bt277.2.2.2.2.2.2.2.2.2.1 bt277.2.2.2.2.2.2.2.2.2.2.1 bt277.2.2.2.2.2.2.2.2.2.2.2.1 bt277.2.2.2.2.2.2.2.2.2.2.2.2.1 bt277.2.2.2.2.2.2.2.2.2.2.2.2.2.1 bt277.2.2.2.2.2.2.2.2.2.2.2.2.2.2.1 bt277.2.2.2.2.2.2.2.2.2.2.2.2.2.2.2))))) = some r := H
         have A17 := Aside0.mk A170
         clear A170
         replace H := Option.bind_eq_some_iff.mp H
         obtain ⟨t275, A180, H⟩ := H
         replace H : ((probe_Probe_Got.f kj11 x219000_1 x219001_1 x219002_1 x219003_1 x219004_1 x219005_1 x219006_1 x219007_1 x219008_1 x219009_1 x219010_1 x219011_1 x219012_1 x219013_1 x219014_1 1 (wrap64 (1 + t273)) t275 (Int.tmod ((rd_T42 l1 x13_1).f5) 1099511627776)).bind fun bt277 => (if bt277.1 < 0 then (some false) else (if bt277.1 > 0 then (if x13_1 < 3 then (some false) else (if (wrap64 (x12_1 + (wrap64 (1 + t273)))) < (wrap64 (Int.tdiv t238 2)) then (some false) else (flywheellaw26_ProbeFew.l0 kj11 l1 a2 t238 (wrap64 (x12_1 + (wrap64 (1 + t273)))) (wrap64 (x13_1 + 1)) bt277.2.1 bt277.2.2.1 bt277.2.2.2.1 bt277.2.2.2.2.1 bt277.2.2.2.2.2.1 bt277.2.2.2.2.2.2.1 bt277.2.2.2.2.2.2.2.1 bt277.2.2.2.2.2.2.2.2.1 bt277.2.2.2.2.2.2.2.2.2.1 bt277.2.2.2.2.2.2.2.2.2.2.1 bt277.2.2.2.2.2.2.2.2.2.2.2.1 bt277.2.2.2.2.2.2.2.2.2.2.2.2.1 bt277.2.2.2.2.2.2.2.2.2.2.2.2.2.1 bt277.2.2.2.2.2.2.2.2.2.2.2.2.2.2.1 bt277.2.2.2.2.2.2.2.2.2.2.2.2.2.2.2))) else (flywheellaw26_ProbeFew.l0 kj11 l1 a2 t238 (wrap64 (x12_1 + (wrap64 (1 + t273)))) (wrap64 (x13_1 + 1)) bt277.2.1 bt277.2.2.1 bt277.2.2.2.1 bt277.2.2.2.2.1 bt277.2.2.2.2.2.1 bt277.2.2.2.2.2.2.1 bt277.2.2.2.2.2.2.2.1 bt277.2.2.2.2.2.2.2.2.1 bt277.2.2.2.2.2.2.2.2.2.1 bt277.2.2.2.2.2.2.2.2.2.2.1 bt277.2.2.2.2.2.2.2.2.2.2.2.1 bt277.2.2.2.2.2.2.2.2.2.2.2.2.1 bt277.2.2.2.2.2.2.2.2.2.2.2.2.2.1 bt277.2.2.2.2.2.2.2.2.2.2.2.2.2.2.1 bt277.2.2.2.2.2.2.2.2.2.2.2.2.2.2.2)))) = some r := H
         have A18 := Aside0.mk A180
         clear A180
         replace H := Option.bind_eq_some_iff.mp H
         obtain ⟨⟨t277, t278, t279, t280, t281, t282, t283, t284, t285, t286, t287, t288, t289, t290, t291, t292⟩, A190, H⟩ := H
         replace H : (if t277 < 0 then (some false) else (if t277 > 0 then (if x13_1 < 3 then (some false) else (if (wrap64 (x12_1 + (wrap64 (1 + t273)))) < (wrap64 (Int.tdiv t238 2)) then (some false) else (flywheellaw26_ProbeFew.l0 kj11 l1 a2 t238 (wrap64 (x12_1 + (wrap64 (1 + t273)))) (wrap64 (x13_1 + 1)) t278 t279 t280 t281 t282 t283 t284 t285 t286 t287 t288 t289 t290 t291 t292))) else (flywheellaw26_ProbeFew.l0 kj11 l1 a2 t238 (wrap64 (x12_1 + (wrap64 (1 + t273)))) (wrap64 (x13_1 + 1)) t278 t279 t280 t281 t282 t283 t284 t285 t286 t287 t288 t289 t290 t291 t292))) = some r := H
         have A19 := Aside0.mk A190
         clear A190
         by_cases c20 : t277 < 0
         ·rw [if_pos c20] at H
          have c20b0 : decide (t277 < 0) = true := decide_eq_true c20
          clear c20
          obtain rfl := Option.some.inj H
          have p272 : 0 ≤ (x13_1 : Int) := of_decide_eq_true (by first | (with_reducible assumption) | assumption)
          have q272 : x13_1 < (l1.length : Int) := of_decide_eq_true (by first | (with_reducible assumption) | assumption)
          obtain ⟨ad272, e272, hx272_0, hx272_1, hx272_2, hx272_3, hx272_4, hx272_5⟩ := at_T42 HR1.out x13_1 p272 q272
          cases e272
          replace hx272_0 := (HB.out.cell (World.block_lt_of_cell? w _ hx272_0)).trans hx272_0
          replace hx272_1 := (HB.out.cell (World.block_lt_of_cell? w _ hx272_1)).trans hx272_1
          replace hx272_2 := (HB.out.cell (World.block_lt_of_cell? w _ hx272_2)).trans hx272_2
          replace hx272_3 := (HB.out.cell (World.block_lt_of_cell? w _ hx272_3)).trans hx272_3
          replace hx272_4 := (HB.out.cell (World.block_lt_of_cell? w _ hx272_4)).trans hx272_4
          replace hx272_5 := (HB.out.cell (World.block_lt_of_cell? w _ hx272_5)).trans hx272_5
          replace p272 := eq_true p272
          replace q272 := eq_true q272
          try go_wp2_with (first | ((with_reducible refine gate_callee (f := 20) rfl ?_); refine goesL_ (some 45) rfl rfl Try.func20 (by kernel_rfl) rfl #[.int .i64 ((rd_T42 l1 x13_1).f2), .int .i64 1500] rfl (by (try simp only [List.map_toArray, List.map_cons, List.map_nil]); first | done | rfl | (simp only [List.length_drop, List.length_take]; rfl)) ?_; (with_reducible refine (flywheelkeep_Mod.calls ((rd_T42 l1 x13_1).f2) 1500 t273 _ A17.out).mono ?_); rintro e w' ⟨rfl, ⟨nd, rfl⟩⟩; refine ⟨_, rfl, ?_⟩))
          (try (rw [drewN_self wc]; generalize hq_ : World.drewN wc _ = wc; have n0_ : Aside0 (IsS75 w wc g218 x219000_1 x219001_1 x219002_1 x219003_1 x219004_1 x219005_1 x219006_1 x219007_1 x219008_1 x219009_1 x219010_1 x219011_1 x219012_1 x219013_1 x219014_1) := ⟨by rw [← hq_]; exact (by repeat (first | (with_reducible first | exact HI218.out | apply IsS75.alloc | apply IsS75.drewN | apply IsS75.drew | apply IsS75.set_0 | apply IsS75.set_1 | apply IsS75.set_2 | apply IsS75.set_3 | apply IsS75.set_4 | apply IsS75.set_5 | apply IsS75.set_6 | apply IsS75.set_7 | apply IsS75.set_8 | apply IsS75.set_9 | apply IsS75.set_10 | apply IsS75.set_11 | apply IsS75.set_12 | apply IsS75.set_13 | apply IsS75.set_14) | exact HI218.out))⟩; have n1_ : Aside0 (Below w.heap.size w wc) := ⟨by rw [← hq_]; exact (by repeat (first | (with_reducible first | exact HB.out | apply below_alloc | apply pw_below_drewN | apply below_drew1 | refine below_set ?_ (IsS75.ge HI218.out)) | exact HB.out))⟩; clear HI218 HB hq_; have HI218 := n0_; have HB := n1_; clear n0_ n1_))
          have n0_ := Aside0.mk (IsS75.drew HI218.out)
          have n1_ := Aside0.mk (below_drew1 HB.out)
          clear HI218
          clear HB
          have HI218 := n0_
          have HB := n1_
          clear n0_ n1_
          have p274 : 0 ≤ (x13_1 : Int) := of_decide_eq_true (by first | (with_reducible assumption) | assumption)
          have q274 : x13_1 < (l1.length : Int) := of_decide_eq_true (by first | (with_reducible assumption) | assumption)
          obtain ⟨ad274, e274, hx274_0, hx274_1, hx274_2, hx274_3, hx274_4, hx274_5⟩ := at_T42 HR1.out x13_1 p274 q274
          have hw274_5 := hx274_5
          have hw274_4 := hx274_4
          have hw274_3 := hx274_3
          have hw274_2 := hx274_2
          have hw274_1 := hx274_1
          have hw274_0 := hx274_0
          obtain rfl : ad272 = ad274 := (by injection e274)
          replace hx274_0 := (HB.out.cell (World.block_lt_of_cell? w _ hx274_0)).trans hx274_0
          replace hx274_1 := (HB.out.cell (World.block_lt_of_cell? w _ hx274_1)).trans hx274_1
          replace hx274_2 := (HB.out.cell (World.block_lt_of_cell? w _ hx274_2)).trans hx274_2
          replace hx274_3 := (HB.out.cell (World.block_lt_of_cell? w _ hx274_3)).trans hx274_3
          replace hx274_4 := (HB.out.cell (World.block_lt_of_cell? w _ hx274_4)).trans hx274_4
          replace hx274_5 := (HB.out.cell (World.block_lt_of_cell? w _ hx274_5)).trans hx274_5
          replace p274 := eq_true p274
          replace q274 := eq_true q274
          have p276 : 0 ≤ (x13_1 : Int) := of_decide_eq_true (by first | (with_reducible assumption) | assumption)
          have q276 : x13_1 < (l1.length : Int) := of_decide_eq_true (by first | (with_reducible assumption) | assumption)
          obtain ⟨ad276, e276, hx276_0, hx276_1, hx276_2, hx276_3, hx276_4, hx276_5⟩ := at_T42 HR1.out x13_1 p276 q276
          have hw276_5 := hx276_5
          have hw276_4 := hx276_4
          have hw276_3 := hx276_3
          have hw276_2 := hx276_2
          have hw276_1 := hx276_1
          have hw276_0 := hx276_0
          obtain rfl : ad272 = ad276 := (by injection e276)
          replace hx276_0 := (HB.out.cell (World.block_lt_of_cell? w _ hx276_0)).trans hx276_0
          replace hx276_1 := (HB.out.cell (World.block_lt_of_cell? w _ hx276_1)).trans hx276_1
          replace hx276_2 := (HB.out.cell (World.block_lt_of_cell? w _ hx276_2)).trans hx276_2
          replace hx276_3 := (HB.out.cell (World.block_lt_of_cell? w _ hx276_3)).trans hx276_3
          replace hx276_4 := (HB.out.cell (World.block_lt_of_cell? w _ hx276_4)).trans hx276_4
          replace hx276_5 := (HB.out.cell (World.block_lt_of_cell? w _ hx276_5)).trans hx276_5
          replace p276 := eq_true p276
          replace q276 := eq_true q276
          refine start_ (n := 16) (S := fun w' => w'.cell? (ad272.add ((x13_1).toNat * 6)) = some (.int .i64 ((rd_T42 l1 x13_1).f0)) ∧ w'.cell? ⟨(ad272.add ((x13_1).toNat * 6)).block, (ad272.add ((x13_1).toNat * 6)).off + 1, none⟩ = some (.int .i64 ((rd_T42 l1 x13_1).f1)) ∧ w'.cell? ⟨(ad272.add ((x13_1).toNat * 6)).block, (ad272.add ((x13_1).toNat * 6)).off + 2, none⟩ = some (.int .i64 ((rd_T42 l1 x13_1).f2)) ∧ w'.cell? ⟨(ad272.add ((x13_1).toNat * 6)).block, (ad272.add ((x13_1).toNat * 6)).off + 3, none⟩ = some (.int .i64 ((rd_T42 l1 x13_1).f3)) ∧ w'.cell? ⟨(ad272.add ((x13_1).toNat * 6)).block, (ad272.add ((x13_1).toNat * 6)).off + 4, none⟩ = some (.int .i64 ((rd_T42 l1 x13_1).f4)) ∧ w'.cell? ⟨(ad272.add ((x13_1).toNat * 6)).block, (ad272.add ((x13_1).toNat * 6)).off + 5, none⟩ = some (.int .i64 ((rd_T42 l1 x13_1).f5)) ∧ w'.cell? (ad272.add ((x13_1).toNat * 6)) = some (.int .i64 ((rd_T42 l1 x13_1).f0)) ∧ w'.cell? ⟨(ad272.add ((x13_1).toNat * 6)).block, (ad272.add ((x13_1).toNat * 6)).off + 1, none⟩ = some (.int .i64 ((rd_T42 l1 x13_1).f1)) ∧ w'.cell? ⟨(ad272.add ((x13_1).toNat * 6)).block, (ad272.add ((x13_1).toNat * 6)).off + 2, none⟩ = some (.int .i64 ((rd_T42 l1 x13_1).f2)) ∧ w'.cell? ⟨(ad272.add ((x13_1).toNat * 6)).block, (ad272.add ((x13_1).toNat * 6)).off + 3, none⟩ = some (.int .i64 ((rd_T42 l1 x13_1).f3)) ∧ w'.cell? ⟨(ad272.add ((x13_1).toNat * 6)).block, (ad272.add ((x13_1).toNat * 6)).off + 4, none⟩ = some (.int .i64 ((rd_T42 l1 x13_1).f4)) ∧ w'.cell? ⟨(ad272.add ((x13_1).toNat * 6)).block, (ad272.add ((x13_1).toNat * 6)).off + 5, none⟩ = some (.int .i64 ((rd_T42 l1 x13_1).f5))) (ds := []) #[false, false, false, false, false, false, false, false, false, false, false, false, false, false, false, false] (by kernel_rfl) rfl rfl ⟨((HB.out.cell (World.block_lt_of_cell? w _ hw274_0)).trans hw274_0), ((HB.out.cell (World.block_lt_of_cell? w _ hw274_1)).trans hw274_1), ((HB.out.cell (World.block_lt_of_cell? w _ hw274_2)).trans hw274_2), ((HB.out.cell (World.block_lt_of_cell? w _ hw274_3)).trans hw274_3), ((HB.out.cell (World.block_lt_of_cell? w _ hw274_4)).trans hw274_4), ((HB.out.cell (World.block_lt_of_cell? w _ hw274_5)).trans hw274_5), ((HB.out.cell (World.block_lt_of_cell? w _ hw276_0)).trans hw276_0), ((HB.out.cell (World.block_lt_of_cell? w _ hw276_1)).trans hw276_1), ((HB.out.cell (World.block_lt_of_cell? w _ hw276_2)).trans hw276_2), ((HB.out.cell (World.block_lt_of_cell? w _ hw276_3)).trans hw276_3), ((HB.out.cell (World.block_lt_of_cell? w _ hw276_4)).trans hw276_4), ((HB.out.cell (World.block_lt_of_cell? w _ hw276_5)).trans hw276_5)⟩ (fun hHeld => ?_); refine with_tabW flywheellaw26_ProbeFew.tab12 flywheellaw26_ProbeFew.bits12 (fun HT_ HW_ => ?_)
          generalize wc.drew = w21 at HI218 HB hx274_0 hx274_1 hx274_2 hx274_3 hx274_4 hx274_5 hx276_0 hx276_1 hx276_2 hx276_3 hx276_4 hx276_5 hHeld ⊢
          refine pure_ (i := 0) (N := some 50) (v := ?_) (a' := ?_) #[true, false, false, false, false, false, false, false, false, false, false, false, false, false, false, false] rfl rfl (any_of HT_.out (by kernel_rfl)) (fun _ _ _ h => h) (Or.inl ⟨by rfl, ?_⟩) ?_ ?_
          rotate_left
          ·intro w'
           go_simp
           with_reducible rfl
          rotate_left
          ·simp only [Act.put, List.setIfInBounds_toArray, List.set_cons_zero, List.set_cons_succ, i64_w, i32_w]
           rfl
          refine pure_ (i := 1) (N := some 51) (v := ?_) (a' := ?_) #[true, true, false, false, false, false, false, false, false, false, false, false, false, false, false, false] rfl rfl (any_of HT_.out (by kernel_rfl)) (fun _ _ _ h => h) (Or.inl ⟨by rfl, ?_⟩) ?_ ?_
          rotate_left
          ·intro w'
           go_simp
           with_reducible rfl
          rotate_left
          ·simp only [Act.put, List.setIfInBounds_toArray, List.set_cons_zero, List.set_cons_succ, i64_w, i32_w]
           rfl
          refine pure_ (i := 2) (N := some 52) (v := ?_) (a' := ?_) #[true, true, true, false, false, false, false, false, false, false, false, false, false, false, false, false] rfl rfl (any_of HT_.out (by kernel_rfl)) (fun _ _ _ h => h) (Or.inl ⟨by rfl, ?_⟩) ?_ ?_
          rotate_left
          ·intro w'
           go_simp
           with_reducible rfl
          rotate_left
          ·simp only [Act.put, List.setIfInBounds_toArray, List.set_cons_zero, List.set_cons_succ, i64_w, i32_w]
           rfl
          refine pure_ (i := 3) (N := some 53) (v := ?_) (a' := ?_) #[true, true, true, true, false, false, false, false, false, false, false, false, false, false, false, false] rfl rfl (any_of HT_.out (by kernel_rfl)) (fun _ _ _ h => h) (Or.inl ⟨by rfl, ?_⟩) ?_ ?_
          rotate_left
          ·intro w'
           go_simp
           with_reducible rfl
          rotate_left
          ·simp only [Act.put, List.setIfInBounds_toArray, List.set_cons_zero, List.set_cons_succ, i64_w, i32_w]
           rfl
          refine pure_ (i := 4) (N := some 54) (v := ?_) (a' := ?_) #[true, true, true, true, true, false, false, false, false, false, false, false, false, false, false, false] rfl rfl (any_of HT_.out (by kernel_rfl)) (fun _ _ _ h => h) (Or.inl ⟨by rfl, ?_⟩) ?_ ?_
          rotate_left
          ·intro w'
           go_simp
           with_reducible rfl
          rotate_left
          ·simp only [Act.put, List.setIfInBounds_toArray, List.set_cons_zero, List.set_cons_succ, i64_w, i32_w]
           rfl
          refine pure_ (i := 5) (N := some 55) (v := ?_) (a' := ?_) #[true, true, true, true, true, true, false, false, false, false, false, false, false, false, false, false] rfl rfl (any_of HT_.out (by kernel_rfl)) (fun _ _ _ h => h) (Or.inl ⟨by rfl, ?_⟩) ?_ ?_
          rotate_left
          ·intro w'
           go_simp
           with_reducible rfl
          rotate_left
          ·simp only [Act.put, List.setIfInBounds_toArray, List.set_cons_zero, List.set_cons_succ, i64_w, i32_w]
           rfl
          refine pure_ (i := 8) (N := some 58) (v := ?_) (a' := ?_) #[true, true, true, true, true, true, false, false, true, false, false, false, false, false, false, false] rfl rfl (any_of HT_.out (by kernel_rfl)) (fun _ _ _ h => h) (Or.inl ⟨by rfl, ?_⟩) ?_ ?_
          rotate_left
          ·intro w'
           go_simp
           with_reducible rfl
          rotate_left
          ·simp only [Act.put, List.setIfInBounds_toArray, List.set_cons_zero, List.set_cons_succ, i64_w, i32_w]
           rfl
          refine pure_ (i := 9) (N := some 59) (v := ?_) (a' := ?_) #[true, true, true, true, true, true, false, false, true, true, false, false, false, false, false, false] rfl rfl (any_of HT_.out (by kernel_rfl)) (fun _ _ _ h => h) (Or.inl ⟨by rfl, ?_⟩) ?_ ?_
          rotate_left
          ·intro w'
           go_simp
           with_reducible rfl
          rotate_left
          ·simp only [Act.put, List.setIfInBounds_toArray, List.set_cons_zero, List.set_cons_succ, i64_w, i32_w]
           rfl
          refine pure_ (i := 10) (N := some 60) (v := ?_) (a' := ?_) #[true, true, true, true, true, true, false, false, true, true, true, false, false, false, false, false] rfl rfl (any_of HT_.out (by kernel_rfl)) (fun _ _ _ h => h) (Or.inl ⟨by rfl, ?_⟩) ?_ ?_
          rotate_left
          ·intro w'
           go_simp
           with_reducible rfl
          rotate_left
          ·simp only [Act.put, List.setIfInBounds_toArray, List.set_cons_zero, List.set_cons_succ, i64_w, i32_w]
           rfl
          refine pure_ (i := 11) (N := some 61) (v := ?_) (a' := ?_) #[true, true, true, true, true, true, false, false, true, true, true, true, false, false, false, false] rfl rfl (any_of HT_.out (by kernel_rfl)) (fun _ _ _ h => h) (Or.inl ⟨by rfl, ?_⟩) ?_ ?_
          rotate_left
          ·intro w'
           go_simp
           with_reducible rfl
          rotate_left
          ·simp only [Act.put, List.setIfInBounds_toArray, List.set_cons_zero, List.set_cons_succ, i64_w, i32_w]
           rfl
          refine take_ (i := 6) (N := some 56) (v := ?_) (a' := ?_) #[true, true, true, true, true, true, true, false, true, true, true, true, false, false, false, false] rfl rfl (take_ofW HT_.out HW_.out (by kernel_rfl)) (fun _ _ _ h => h) (Or.inl ⟨by rfl, ?_⟩) hHeld ?_ ?_
          rotate_left
          ·rintro w' ⟨s0, s1, s2, s3, s4, s5, s6, s7, s8, s9, s10, s11⟩
           go_simp
           with_reducible rfl
          rotate_left
          ·simp only [Act.put, List.setIfInBounds_toArray, List.set_cons_zero, List.set_cons_succ, i64_w, i32_w]
           rfl
          refine take_ (i := 12) (N := some 62) (v := ?_) (a' := ?_) #[true, true, true, true, true, true, true, false, true, true, true, true, true, false, false, false] rfl rfl (take_ofW HT_.out HW_.out (by kernel_rfl)) (fun _ _ _ h => h) (Or.inl ⟨by rfl, ?_⟩) hHeld ?_ ?_
          rotate_left
          ·rintro w' ⟨s0, s1, s2, s3, s4, s5, s6, s7, s8, s9, s10, s11⟩
           go_simp
           with_reducible rfl
          rotate_left
          ·simp only [Act.put, List.setIfInBounds_toArray, List.set_cons_zero, List.set_cons_succ, i64_w, i32_w]
           rfl
          refine pure_ (i := 13) (N := some 63) (v := ?_) (a' := ?_) #[true, true, true, true, true, true, true, false, true, true, true, true, true, true, false, false] rfl rfl (any_of HT_.out (by kernel_rfl)) (fun _ _ _ h => h) (Or.inl ⟨by rfl, ?_⟩) ?_ ?_
          rotate_left
          ·intro w'
           go_simp
           with_reducible rfl
          rotate_left
          ·simp only [Act.put, List.setIfInBounds_toArray, List.set_cons_zero, List.set_cons_succ, i64_w, i32_w]
           rfl
          refine one_ (i := 7) (N := some 57) #[true, true, true, true, true, true, true, true, true, true, true, true, true, true, false, false] rfl rfl (one_of HT_.out (by kernel_rfl)) (by decide) (fun K hK => ?_)
          refine goes_ Try.func22 (by kernel_rfl) rfl #[.int .i64 ((rd_T42 l1 x13_1).f4), .int .i64 1099511627776] (by rfl) rfl rfl (by (try simp only [List.map_toArray, List.map_cons, List.map_nil]); first | done | rfl | (simp only [List.length_drop, List.length_take]; rfl)) ?_
          with_reducible refine (flywheelkeep_Mod64.calls ((rd_T42 l1 x13_1).f4) 1099511627776 t275 _ A18.out).mono ?_
          rintro e w' ⟨rfl, ⟨nd, rfl⟩⟩
          refine ⟨_, rfl, ?_⟩
          refine hK.out _ _ ⟨((HB.out.cell (World.block_lt_of_cell? w _ hw274_0)).trans hw274_0), ((HB.out.cell (World.block_lt_of_cell? w _ hw274_1)).trans hw274_1), ((HB.out.cell (World.block_lt_of_cell? w _ hw274_2)).trans hw274_2), ((HB.out.cell (World.block_lt_of_cell? w _ hw274_3)).trans hw274_3), ((HB.out.cell (World.block_lt_of_cell? w _ hw274_4)).trans hw274_4), ((HB.out.cell (World.block_lt_of_cell? w _ hw274_5)).trans hw274_5), ((HB.out.cell (World.block_lt_of_cell? w _ hw276_0)).trans hw276_0), ((HB.out.cell (World.block_lt_of_cell? w _ hw276_1)).trans hw276_1), ((HB.out.cell (World.block_lt_of_cell? w _ hw276_2)).trans hw276_2), ((HB.out.cell (World.block_lt_of_cell? w _ hw276_3)).trans hw276_3), ((HB.out.cell (World.block_lt_of_cell? w _ hw276_4)).trans hw276_4), ((HB.out.cell (World.block_lt_of_cell? w _ hw276_5)).trans hw276_5)⟩ (fun hHeld => ?_)
          clear hK K
          refine norm_ (a' := ?_) ?_ ?_
          rotate_left
          ·show Act.put _ (some 57) _ = _
           simp only [Act.put, List.setIfInBounds_toArray, List.set_cons_zero, List.set_cons_succ, i64_w, i32_w]
           rfl
          refine one_ (i := 14) (N := some 64) #[true, true, true, true, true, true, true, true, true, true, true, true, true, true, true, false] rfl rfl (one_of HT_.out (by kernel_rfl)) (by decide) (fun K hK => ?_)
          refine goes_ Try.func25 (by kernel_rfl) rfl #[.pointer (some ⟨g218, 0, none⟩), .int .i64 1, .int .i64 (wrap64 (1 + t273)), .int .i64 t275, .int .i64 (Int.tmod ((rd_T42 l1 x13_1).f5) 1099511627776)] (by rfl) rfl rfl (by (try simp only [List.map_toArray, List.map_cons, List.map_nil]); first | done | rfl | (simp only [List.length_drop, List.length_take]; rfl)) ?_
          with_reducible refine (probe_Probe_Got.calls kj11 g218 x219000_1 x219001_1 x219002_1 x219003_1 x219004_1 x219005_1 x219006_1 x219007_1 x219008_1 x219009_1 x219010_1 x219011_1 x219012_1 x219013_1 x219014_1 1 (wrap64 (1 + t273)) t275 (Int.tmod ((rd_T42 l1 x13_1).f5) 1099511627776) t277 t278 t279 t280 t281 t282 t283 t284 t285 t286 t287 t288 t289 t290 t291 t292 w _ ?side1 ?side2 A19.out).mono ?_
          (case side1 => repeat (first | (with_reducible first | exact HI218.out | apply IsS75.alloc | apply IsS75.drewN | apply IsS75.drew | apply IsS75.set_0 | apply IsS75.set_1 | apply IsS75.set_2 | apply IsS75.set_3 | apply IsS75.set_4 | apply IsS75.set_5 | apply IsS75.set_6 | apply IsS75.set_7 | apply IsS75.set_8 | apply IsS75.set_9 | apply IsS75.set_10 | apply IsS75.set_11 | apply IsS75.set_12 | apply IsS75.set_13 | apply IsS75.set_14) | exact HI218.out))
          (case side2 => repeat (first | (with_reducible first | exact HB.out | apply below_alloc | apply pw_below_drewN | apply below_drew1 | refine below_set ?_ (IsS75.ge HI218.out)) | exact HB.out))
          rintro e w22 ⟨rfl, hi, hb, hk⟩
          refine ⟨_, rfl, ?_⟩
          have n0_ := Aside0.mk (hb)
          have n1_ := Aside0.mk (hi)
          clear HB
          clear HI218
          have HB := n0_
          have HI218 := n1_
          clear n0_ n1_
          (try clear hb)
          (try clear hb2)
          (try clear hk)
          (try clear hi)
          refine hK.out _ _ ⟨((HB.out.cell (World.block_lt_of_cell? w _ hw274_0)).trans hw274_0), ((HB.out.cell (World.block_lt_of_cell? w _ hw274_1)).trans hw274_1), ((HB.out.cell (World.block_lt_of_cell? w _ hw274_2)).trans hw274_2), ((HB.out.cell (World.block_lt_of_cell? w _ hw274_3)).trans hw274_3), ((HB.out.cell (World.block_lt_of_cell? w _ hw274_4)).trans hw274_4), ((HB.out.cell (World.block_lt_of_cell? w _ hw274_5)).trans hw274_5), ((HB.out.cell (World.block_lt_of_cell? w _ hw276_0)).trans hw276_0), ((HB.out.cell (World.block_lt_of_cell? w _ hw276_1)).trans hw276_1), ((HB.out.cell (World.block_lt_of_cell? w _ hw276_2)).trans hw276_2), ((HB.out.cell (World.block_lt_of_cell? w _ hw276_3)).trans hw276_3), ((HB.out.cell (World.block_lt_of_cell? w _ hw276_4)).trans hw276_4), ((HB.out.cell (World.block_lt_of_cell? w _ hw276_5)).trans hw276_5)⟩ (fun hHeld => ?_)
          clear hK K
          refine norm_ (a' := ?_) ?_ ?_
          rotate_left
          ·show Act.put _ (some 64) _ = _
           simp only [Act.put, List.setIfInBounds_toArray, List.set_cons_zero, List.set_cons_succ, i64_w, i32_w]
           rfl
          refine pure_ (i := 15) (N := some 15) (v := ?_) (a' := ?_) #[true, true, true, true, true, true, true, true, true, true, true, true, true, true, true, true] rfl rfl (any_of HT_.out (by kernel_rfl)) (fun _ _ _ h => h) (Or.inl ⟨by rfl, ?_⟩) ?_ ?_
          rotate_left
          ·intro w'
           go_simp
           with_reducible rfl
          rotate_left
          ·simp only [Act.put, List.setIfInBounds_toArray, List.set_cons_zero, List.set_cons_succ, i64_w, i32_w]
           rfl
          refine done_ (done_of HT_.out (by kernel_rfl)) ?_
          try go_wp2
          go_ret
          exact ⟨by first | rfl | (simp [errW_none, errW_some] <;> rfl) | (simp [*, errW_none, errW_some] <;> rfl), by repeat (first | (with_reducible first | exact HB.out | apply below_alloc | apply pw_below_drewN | apply below_drew1 | refine below_set ?_ (IsS75.ge HI218.out)) | exact HB.out)⟩
         ·rw [if_neg c20] at H
          have c20b0 : decide (t277 < 0) = false := decide_eq_false c20
          clear c20
          by_cases c23 : t277 > 0
          ·rw [if_pos c23] at H
           have c23b0 : decide (0 < t277) = true := decide_eq_true c23
           clear c23
           by_cases c24 : x13_1 < 3
           ·rw [if_pos c24] at H
            have c24b0 : decide (x13_1 < 3) = true := decide_eq_true c24
            clear c24
            obtain rfl := Option.some.inj H
            have p272 : 0 ≤ (x13_1 : Int) := of_decide_eq_true (by first | (with_reducible assumption) | assumption)
            have q272 : x13_1 < (l1.length : Int) := of_decide_eq_true (by first | (with_reducible assumption) | assumption)
            obtain ⟨ad272, e272, hx272_0, hx272_1, hx272_2, hx272_3, hx272_4, hx272_5⟩ := at_T42 HR1.out x13_1 p272 q272
            cases e272
            replace hx272_0 := (HB.out.cell (World.block_lt_of_cell? w _ hx272_0)).trans hx272_0
            replace hx272_1 := (HB.out.cell (World.block_lt_of_cell? w _ hx272_1)).trans hx272_1
            replace hx272_2 := (HB.out.cell (World.block_lt_of_cell? w _ hx272_2)).trans hx272_2
            replace hx272_3 := (HB.out.cell (World.block_lt_of_cell? w _ hx272_3)).trans hx272_3
            replace hx272_4 := (HB.out.cell (World.block_lt_of_cell? w _ hx272_4)).trans hx272_4
            replace hx272_5 := (HB.out.cell (World.block_lt_of_cell? w _ hx272_5)).trans hx272_5
            replace p272 := eq_true p272
            replace q272 := eq_true q272
            try go_wp2_with (first | ((with_reducible refine gate_callee (f := 20) rfl ?_); refine goesL_ (some 45) rfl rfl Try.func20 (by kernel_rfl) rfl #[.int .i64 ((rd_T42 l1 x13_1).f2), .int .i64 1500] rfl (by (try simp only [List.map_toArray, List.map_cons, List.map_nil]); first | done | rfl | (simp only [List.length_drop, List.length_take]; rfl)) ?_; (with_reducible refine (flywheelkeep_Mod.calls ((rd_T42 l1 x13_1).f2) 1500 t273 _ A17.out).mono ?_); rintro e w' ⟨rfl, ⟨nd, rfl⟩⟩; refine ⟨_, rfl, ?_⟩))
            (try (rw [drewN_self wc]; generalize hq_ : World.drewN wc _ = wc; have n0_ : Aside0 (IsS75 w wc g218 x219000_1 x219001_1 x219002_1 x219003_1 x219004_1 x219005_1 x219006_1 x219007_1 x219008_1 x219009_1 x219010_1 x219011_1 x219012_1 x219013_1 x219014_1) := ⟨by rw [← hq_]; exact (by repeat (first | (with_reducible first | exact HI218.out | apply IsS75.alloc | apply IsS75.drewN | apply IsS75.drew | apply IsS75.set_0 | apply IsS75.set_1 | apply IsS75.set_2 | apply IsS75.set_3 | apply IsS75.set_4 | apply IsS75.set_5 | apply IsS75.set_6 | apply IsS75.set_7 | apply IsS75.set_8 | apply IsS75.set_9 | apply IsS75.set_10 | apply IsS75.set_11 | apply IsS75.set_12 | apply IsS75.set_13 | apply IsS75.set_14) | exact HI218.out))⟩; have n1_ : Aside0 (Below w.heap.size w wc) := ⟨by rw [← hq_]; exact (by repeat (first | (with_reducible first | exact HB.out | apply below_alloc | apply pw_below_drewN | apply below_drew1 | refine below_set ?_ (IsS75.ge HI218.out)) | exact HB.out))⟩; clear HI218 HB hq_; have HI218 := n0_; have HB := n1_; clear n0_ n1_))
            have n0_ := Aside0.mk (IsS75.drew HI218.out)
            have n1_ := Aside0.mk (below_drew1 HB.out)
            clear HI218
            clear HB
            have HI218 := n0_
            have HB := n1_
            clear n0_ n1_
            have p274 : 0 ≤ (x13_1 : Int) := of_decide_eq_true (by first | (with_reducible assumption) | assumption)
            have q274 : x13_1 < (l1.length : Int) := of_decide_eq_true (by first | (with_reducible assumption) | assumption)
            obtain ⟨ad274, e274, hx274_0, hx274_1, hx274_2, hx274_3, hx274_4, hx274_5⟩ := at_T42 HR1.out x13_1 p274 q274
            have hw274_5 := hx274_5
            have hw274_4 := hx274_4
            have hw274_3 := hx274_3
            have hw274_2 := hx274_2
            have hw274_1 := hx274_1
            have hw274_0 := hx274_0
            obtain rfl : ad272 = ad274 := (by injection e274)
            replace hx274_0 := (HB.out.cell (World.block_lt_of_cell? w _ hx274_0)).trans hx274_0
            replace hx274_1 := (HB.out.cell (World.block_lt_of_cell? w _ hx274_1)).trans hx274_1
            replace hx274_2 := (HB.out.cell (World.block_lt_of_cell? w _ hx274_2)).trans hx274_2
            replace hx274_3 := (HB.out.cell (World.block_lt_of_cell? w _ hx274_3)).trans hx274_3
            replace hx274_4 := (HB.out.cell (World.block_lt_of_cell? w _ hx274_4)).trans hx274_4
            replace hx274_5 := (HB.out.cell (World.block_lt_of_cell? w _ hx274_5)).trans hx274_5
            replace p274 := eq_true p274
            replace q274 := eq_true q274
            have p276 : 0 ≤ (x13_1 : Int) := of_decide_eq_true (by first | (with_reducible assumption) | assumption)
            have q276 : x13_1 < (l1.length : Int) := of_decide_eq_true (by first | (with_reducible assumption) | assumption)
            obtain ⟨ad276, e276, hx276_0, hx276_1, hx276_2, hx276_3, hx276_4, hx276_5⟩ := at_T42 HR1.out x13_1 p276 q276
            have hw276_5 := hx276_5
            have hw276_4 := hx276_4
            have hw276_3 := hx276_3
            have hw276_2 := hx276_2
            have hw276_1 := hx276_1
            have hw276_0 := hx276_0
            obtain rfl : ad272 = ad276 := (by injection e276)
            replace hx276_0 := (HB.out.cell (World.block_lt_of_cell? w _ hx276_0)).trans hx276_0
            replace hx276_1 := (HB.out.cell (World.block_lt_of_cell? w _ hx276_1)).trans hx276_1
            replace hx276_2 := (HB.out.cell (World.block_lt_of_cell? w _ hx276_2)).trans hx276_2
            replace hx276_3 := (HB.out.cell (World.block_lt_of_cell? w _ hx276_3)).trans hx276_3
            replace hx276_4 := (HB.out.cell (World.block_lt_of_cell? w _ hx276_4)).trans hx276_4
            replace hx276_5 := (HB.out.cell (World.block_lt_of_cell? w _ hx276_5)).trans hx276_5
            replace p276 := eq_true p276
            replace q276 := eq_true q276
            refine start_ (n := 16) (S := fun w' => w'.cell? (ad272.add ((x13_1).toNat * 6)) = some (.int .i64 ((rd_T42 l1 x13_1).f0)) ∧ w'.cell? ⟨(ad272.add ((x13_1).toNat * 6)).block, (ad272.add ((x13_1).toNat * 6)).off + 1, none⟩ = some (.int .i64 ((rd_T42 l1 x13_1).f1)) ∧ w'.cell? ⟨(ad272.add ((x13_1).toNat * 6)).block, (ad272.add ((x13_1).toNat * 6)).off + 2, none⟩ = some (.int .i64 ((rd_T42 l1 x13_1).f2)) ∧ w'.cell? ⟨(ad272.add ((x13_1).toNat * 6)).block, (ad272.add ((x13_1).toNat * 6)).off + 3, none⟩ = some (.int .i64 ((rd_T42 l1 x13_1).f3)) ∧ w'.cell? ⟨(ad272.add ((x13_1).toNat * 6)).block, (ad272.add ((x13_1).toNat * 6)).off + 4, none⟩ = some (.int .i64 ((rd_T42 l1 x13_1).f4)) ∧ w'.cell? ⟨(ad272.add ((x13_1).toNat * 6)).block, (ad272.add ((x13_1).toNat * 6)).off + 5, none⟩ = some (.int .i64 ((rd_T42 l1 x13_1).f5)) ∧ w'.cell? (ad272.add ((x13_1).toNat * 6)) = some (.int .i64 ((rd_T42 l1 x13_1).f0)) ∧ w'.cell? ⟨(ad272.add ((x13_1).toNat * 6)).block, (ad272.add ((x13_1).toNat * 6)).off + 1, none⟩ = some (.int .i64 ((rd_T42 l1 x13_1).f1)) ∧ w'.cell? ⟨(ad272.add ((x13_1).toNat * 6)).block, (ad272.add ((x13_1).toNat * 6)).off + 2, none⟩ = some (.int .i64 ((rd_T42 l1 x13_1).f2)) ∧ w'.cell? ⟨(ad272.add ((x13_1).toNat * 6)).block, (ad272.add ((x13_1).toNat * 6)).off + 3, none⟩ = some (.int .i64 ((rd_T42 l1 x13_1).f3)) ∧ w'.cell? ⟨(ad272.add ((x13_1).toNat * 6)).block, (ad272.add ((x13_1).toNat * 6)).off + 4, none⟩ = some (.int .i64 ((rd_T42 l1 x13_1).f4)) ∧ w'.cell? ⟨(ad272.add ((x13_1).toNat * 6)).block, (ad272.add ((x13_1).toNat * 6)).off + 5, none⟩ = some (.int .i64 ((rd_T42 l1 x13_1).f5))) (ds := []) #[false, false, false, false, false, false, false, false, false, false, false, false, false, false, false, false] (by kernel_rfl) rfl rfl ⟨((HB.out.cell (World.block_lt_of_cell? w _ hw274_0)).trans hw274_0), ((HB.out.cell (World.block_lt_of_cell? w _ hw274_1)).trans hw274_1), ((HB.out.cell (World.block_lt_of_cell? w _ hw274_2)).trans hw274_2), ((HB.out.cell (World.block_lt_of_cell? w _ hw274_3)).trans hw274_3), ((HB.out.cell (World.block_lt_of_cell? w _ hw274_4)).trans hw274_4), ((HB.out.cell (World.block_lt_of_cell? w _ hw274_5)).trans hw274_5), ((HB.out.cell (World.block_lt_of_cell? w _ hw276_0)).trans hw276_0), ((HB.out.cell (World.block_lt_of_cell? w _ hw276_1)).trans hw276_1), ((HB.out.cell (World.block_lt_of_cell? w _ hw276_2)).trans hw276_2), ((HB.out.cell (World.block_lt_of_cell? w _ hw276_3)).trans hw276_3), ((HB.out.cell (World.block_lt_of_cell? w _ hw276_4)).trans hw276_4), ((HB.out.cell (World.block_lt_of_cell? w _ hw276_5)).trans hw276_5)⟩ (fun hHeld => ?_); refine with_tabW flywheellaw26_ProbeFew.tab12 flywheellaw26_ProbeFew.bits12 (fun HT_ HW_ => ?_)
            generalize wc.drew = w25 at HI218 HB hx274_0 hx274_1 hx274_2 hx274_3 hx274_4 hx274_5 hx276_0 hx276_1 hx276_2 hx276_3 hx276_4 hx276_5 hHeld ⊢
            refine pure_ (i := 0) (N := some 50) (v := ?_) (a' := ?_) #[true, false, false, false, false, false, false, false, false, false, false, false, false, false, false, false] rfl rfl (any_of HT_.out (by kernel_rfl)) (fun _ _ _ h => h) (Or.inl ⟨by rfl, ?_⟩) ?_ ?_
            rotate_left
            ·intro w'
             go_simp
             with_reducible rfl
            rotate_left
            ·simp only [Act.put, List.setIfInBounds_toArray, List.set_cons_zero, List.set_cons_succ, i64_w, i32_w]
             rfl
            refine pure_ (i := 1) (N := some 51) (v := ?_) (a' := ?_) #[true, true, false, false, false, false, false, false, false, false, false, false, false, false, false, false] rfl rfl (any_of HT_.out (by kernel_rfl)) (fun _ _ _ h => h) (Or.inl ⟨by rfl, ?_⟩) ?_ ?_
            rotate_left
            ·intro w'
             go_simp
             with_reducible rfl
            rotate_left
            ·simp only [Act.put, List.setIfInBounds_toArray, List.set_cons_zero, List.set_cons_succ, i64_w, i32_w]
             rfl
            refine pure_ (i := 2) (N := some 52) (v := ?_) (a' := ?_) #[true, true, true, false, false, false, false, false, false, false, false, false, false, false, false, false] rfl rfl (any_of HT_.out (by kernel_rfl)) (fun _ _ _ h => h) (Or.inl ⟨by rfl, ?_⟩) ?_ ?_
            rotate_left
            ·intro w'
             go_simp
             with_reducible rfl
            rotate_left
            ·simp only [Act.put, List.setIfInBounds_toArray, List.set_cons_zero, List.set_cons_succ, i64_w, i32_w]
             rfl
            refine pure_ (i := 3) (N := some 53) (v := ?_) (a' := ?_) #[true, true, true, true, false, false, false, false, false, false, false, false, false, false, false, false] rfl rfl (any_of HT_.out (by kernel_rfl)) (fun _ _ _ h => h) (Or.inl ⟨by rfl, ?_⟩) ?_ ?_
            rotate_left
            ·intro w'
             go_simp
             with_reducible rfl
            rotate_left
            ·simp only [Act.put, List.setIfInBounds_toArray, List.set_cons_zero, List.set_cons_succ, i64_w, i32_w]
             rfl
            refine pure_ (i := 4) (N := some 54) (v := ?_) (a' := ?_) #[true, true, true, true, true, false, false, false, false, false, false, false, false, false, false, false] rfl rfl (any_of HT_.out (by kernel_rfl)) (fun _ _ _ h => h) (Or.inl ⟨by rfl, ?_⟩) ?_ ?_
            rotate_left
            ·intro w'
             go_simp
             with_reducible rfl
            rotate_left
            ·simp only [Act.put, List.setIfInBounds_toArray, List.set_cons_zero, List.set_cons_succ, i64_w, i32_w]
             rfl
            refine pure_ (i := 5) (N := some 55) (v := ?_) (a' := ?_) #[true, true, true, true, true, true, false, false, false, false, false, false, false, false, false, false] rfl rfl (any_of HT_.out (by kernel_rfl)) (fun _ _ _ h => h) (Or.inl ⟨by rfl, ?_⟩) ?_ ?_
            rotate_left
            ·intro w'
             go_simp
             with_reducible rfl
            rotate_left
            ·simp only [Act.put, List.setIfInBounds_toArray, List.set_cons_zero, List.set_cons_succ, i64_w, i32_w]
             rfl
            refine pure_ (i := 8) (N := some 58) (v := ?_) (a' := ?_) #[true, true, true, true, true, true, false, false, true, false, false, false, false, false, false, false] rfl rfl (any_of HT_.out (by kernel_rfl)) (fun _ _ _ h => h) (Or.inl ⟨by rfl, ?_⟩) ?_ ?_
            rotate_left
            ·intro w'
             go_simp
             with_reducible rfl
            rotate_left
            ·simp only [Act.put, List.setIfInBounds_toArray, List.set_cons_zero, List.set_cons_succ, i64_w, i32_w]
             rfl
            refine pure_ (i := 9) (N := some 59) (v := ?_) (a' := ?_) #[true, true, true, true, true, true, false, false, true, true, false, false, false, false, false, false] rfl rfl (any_of HT_.out (by kernel_rfl)) (fun _ _ _ h => h) (Or.inl ⟨by rfl, ?_⟩) ?_ ?_
            rotate_left
            ·intro w'
             go_simp
             with_reducible rfl
            rotate_left
            ·simp only [Act.put, List.setIfInBounds_toArray, List.set_cons_zero, List.set_cons_succ, i64_w, i32_w]
             rfl
            refine pure_ (i := 10) (N := some 60) (v := ?_) (a' := ?_) #[true, true, true, true, true, true, false, false, true, true, true, false, false, false, false, false] rfl rfl (any_of HT_.out (by kernel_rfl)) (fun _ _ _ h => h) (Or.inl ⟨by rfl, ?_⟩) ?_ ?_
            rotate_left
            ·intro w'
             go_simp
             with_reducible rfl
            rotate_left
            ·simp only [Act.put, List.setIfInBounds_toArray, List.set_cons_zero, List.set_cons_succ, i64_w, i32_w]
             rfl
            refine pure_ (i := 11) (N := some 61) (v := ?_) (a' := ?_) #[true, true, true, true, true, true, false, false, true, true, true, true, false, false, false, false] rfl rfl (any_of HT_.out (by kernel_rfl)) (fun _ _ _ h => h) (Or.inl ⟨by rfl, ?_⟩) ?_ ?_
            rotate_left
            ·intro w'
             go_simp
             with_reducible rfl
            rotate_left
            ·simp only [Act.put, List.setIfInBounds_toArray, List.set_cons_zero, List.set_cons_succ, i64_w, i32_w]
             rfl
            refine take_ (i := 6) (N := some 56) (v := ?_) (a' := ?_) #[true, true, true, true, true, true, true, false, true, true, true, true, false, false, false, false] rfl rfl (take_ofW HT_.out HW_.out (by kernel_rfl)) (fun _ _ _ h => h) (Or.inl ⟨by rfl, ?_⟩) hHeld ?_ ?_
            rotate_left
            ·rintro w' ⟨s0, s1, s2, s3, s4, s5, s6, s7, s8, s9, s10, s11⟩
             go_simp
             with_reducible rfl
            rotate_left
            ·simp only [Act.put, List.setIfInBounds_toArray, List.set_cons_zero, List.set_cons_succ, i64_w, i32_w]
             rfl
            refine take_ (i := 12) (N := some 62) (v := ?_) (a' := ?_) #[true, true, true, true, true, true, true, false, true, true, true, true, true, false, false, false] rfl rfl (take_ofW HT_.out HW_.out (by kernel_rfl)) (fun _ _ _ h => h) (Or.inl ⟨by rfl, ?_⟩) hHeld ?_ ?_
            rotate_left
            ·rintro w' ⟨s0, s1, s2, s3, s4, s5, s6, s7, s8, s9, s10, s11⟩
             go_simp
             with_reducible rfl
            rotate_left
            ·simp only [Act.put, List.setIfInBounds_toArray, List.set_cons_zero, List.set_cons_succ, i64_w, i32_w]
             rfl
            refine pure_ (i := 13) (N := some 63) (v := ?_) (a' := ?_) #[true, true, true, true, true, true, true, false, true, true, true, true, true, true, false, false] rfl rfl (any_of HT_.out (by kernel_rfl)) (fun _ _ _ h => h) (Or.inl ⟨by rfl, ?_⟩) ?_ ?_
            rotate_left
            ·intro w'
             go_simp
             with_reducible rfl
            rotate_left
            ·simp only [Act.put, List.setIfInBounds_toArray, List.set_cons_zero, List.set_cons_succ, i64_w, i32_w]
             rfl
            refine one_ (i := 7) (N := some 57) #[true, true, true, true, true, true, true, true, true, true, true, true, true, true, false, false] rfl rfl (one_of HT_.out (by kernel_rfl)) (by decide) (fun K hK => ?_)
            refine goes_ Try.func22 (by kernel_rfl) rfl #[.int .i64 ((rd_T42 l1 x13_1).f4), .int .i64 1099511627776] (by rfl) rfl rfl (by (try simp only [List.map_toArray, List.map_cons, List.map_nil]); first | done | rfl | (simp only [List.length_drop, List.length_take]; rfl)) ?_
            with_reducible refine (flywheelkeep_Mod64.calls ((rd_T42 l1 x13_1).f4) 1099511627776 t275 _ A18.out).mono ?_
            rintro e w' ⟨rfl, ⟨nd, rfl⟩⟩
            refine ⟨_, rfl, ?_⟩
            refine hK.out _ _ ⟨((HB.out.cell (World.block_lt_of_cell? w _ hw274_0)).trans hw274_0), ((HB.out.cell (World.block_lt_of_cell? w _ hw274_1)).trans hw274_1), ((HB.out.cell (World.block_lt_of_cell? w _ hw274_2)).trans hw274_2), ((HB.out.cell (World.block_lt_of_cell? w _ hw274_3)).trans hw274_3), ((HB.out.cell (World.block_lt_of_cell? w _ hw274_4)).trans hw274_4), ((HB.out.cell (World.block_lt_of_cell? w _ hw274_5)).trans hw274_5), ((HB.out.cell (World.block_lt_of_cell? w _ hw276_0)).trans hw276_0), ((HB.out.cell (World.block_lt_of_cell? w _ hw276_1)).trans hw276_1), ((HB.out.cell (World.block_lt_of_cell? w _ hw276_2)).trans hw276_2), ((HB.out.cell (World.block_lt_of_cell? w _ hw276_3)).trans hw276_3), ((HB.out.cell (World.block_lt_of_cell? w _ hw276_4)).trans hw276_4), ((HB.out.cell (World.block_lt_of_cell? w _ hw276_5)).trans hw276_5)⟩ (fun hHeld => ?_)
            clear hK K
            refine norm_ (a' := ?_) ?_ ?_
            rotate_left
            ·show Act.put _ (some 57) _ = _
             simp only [Act.put, List.setIfInBounds_toArray, List.set_cons_zero, List.set_cons_succ, i64_w, i32_w]
             rfl
            refine one_ (i := 14) (N := some 64) #[true, true, true, true, true, true, true, true, true, true, true, true, true, true, true, false] rfl rfl (one_of HT_.out (by kernel_rfl)) (by decide) (fun K hK => ?_)
            refine goes_ Try.func25 (by kernel_rfl) rfl #[.pointer (some ⟨g218, 0, none⟩), .int .i64 1, .int .i64 (wrap64 (1 + t273)), .int .i64 t275, .int .i64 (Int.tmod ((rd_T42 l1 x13_1).f5) 1099511627776)] (by rfl) rfl rfl (by (try simp only [List.map_toArray, List.map_cons, List.map_nil]); first | done | rfl | (simp only [List.length_drop, List.length_take]; rfl)) ?_
            with_reducible refine (probe_Probe_Got.calls kj11 g218 x219000_1 x219001_1 x219002_1 x219003_1 x219004_1 x219005_1 x219006_1 x219007_1 x219008_1 x219009_1 x219010_1 x219011_1 x219012_1 x219013_1 x219014_1 1 (wrap64 (1 + t273)) t275 (Int.tmod ((rd_T42 l1 x13_1).f5) 1099511627776) t277 t278 t279 t280 t281 t282 t283 t284 t285 t286 t287 t288 t289 t290 t291 t292 w _ ?side1 ?side2 A19.out).mono ?_
            (case side1 => repeat (first | (with_reducible first | exact HI218.out | apply IsS75.alloc | apply IsS75.drewN | apply IsS75.drew | apply IsS75.set_0 | apply IsS75.set_1 | apply IsS75.set_2 | apply IsS75.set_3 | apply IsS75.set_4 | apply IsS75.set_5 | apply IsS75.set_6 | apply IsS75.set_7 | apply IsS75.set_8 | apply IsS75.set_9 | apply IsS75.set_10 | apply IsS75.set_11 | apply IsS75.set_12 | apply IsS75.set_13 | apply IsS75.set_14) | exact HI218.out))
            (case side2 => repeat (first | (with_reducible first | exact HB.out | apply below_alloc | apply pw_below_drewN | apply below_drew1 | refine below_set ?_ (IsS75.ge HI218.out)) | exact HB.out))
            rintro e w26 ⟨rfl, hi, hb, hk⟩
            refine ⟨_, rfl, ?_⟩
            have n0_ := Aside0.mk (hb)
            have n1_ := Aside0.mk (hi)
            clear HB
            clear HI218
            have HB := n0_
            have HI218 := n1_
            clear n0_ n1_
            (try clear hb)
            (try clear hb2)
            (try clear hk)
            (try clear hi)
            refine hK.out _ _ ⟨((HB.out.cell (World.block_lt_of_cell? w _ hw274_0)).trans hw274_0), ((HB.out.cell (World.block_lt_of_cell? w _ hw274_1)).trans hw274_1), ((HB.out.cell (World.block_lt_of_cell? w _ hw274_2)).trans hw274_2), ((HB.out.cell (World.block_lt_of_cell? w _ hw274_3)).trans hw274_3), ((HB.out.cell (World.block_lt_of_cell? w _ hw274_4)).trans hw274_4), ((HB.out.cell (World.block_lt_of_cell? w _ hw274_5)).trans hw274_5), ((HB.out.cell (World.block_lt_of_cell? w _ hw276_0)).trans hw276_0), ((HB.out.cell (World.block_lt_of_cell? w _ hw276_1)).trans hw276_1), ((HB.out.cell (World.block_lt_of_cell? w _ hw276_2)).trans hw276_2), ((HB.out.cell (World.block_lt_of_cell? w _ hw276_3)).trans hw276_3), ((HB.out.cell (World.block_lt_of_cell? w _ hw276_4)).trans hw276_4), ((HB.out.cell (World.block_lt_of_cell? w _ hw276_5)).trans hw276_5)⟩ (fun hHeld => ?_)
            clear hK K
            refine norm_ (a' := ?_) ?_ ?_
            rotate_left
            ·show Act.put _ (some 64) _ = _
             simp only [Act.put, List.setIfInBounds_toArray, List.set_cons_zero, List.set_cons_succ, i64_w, i32_w]
             rfl
            refine pure_ (i := 15) (N := some 15) (v := ?_) (a' := ?_) #[true, true, true, true, true, true, true, true, true, true, true, true, true, true, true, true] rfl rfl (any_of HT_.out (by kernel_rfl)) (fun _ _ _ h => h) (Or.inl ⟨by rfl, ?_⟩) ?_ ?_
            rotate_left
            ·intro w'
             go_simp
             with_reducible rfl
            rotate_left
            ·simp only [Act.put, List.setIfInBounds_toArray, List.set_cons_zero, List.set_cons_succ, i64_w, i32_w]
             rfl
            refine done_ (done_of HT_.out (by kernel_rfl)) ?_
            try go_wp2
            go_ret
            exact ⟨by first | rfl | (simp [errW_none, errW_some] <;> rfl) | (simp [*, errW_none, errW_some] <;> rfl), by repeat (first | (with_reducible first | exact HB.out | apply below_alloc | apply pw_below_drewN | apply below_drew1 | refine below_set ?_ (IsS75.ge HI218.out)) | exact HB.out)⟩
           ·rw [if_neg c24] at H
            have c24b0 : decide (x13_1 < 3) = false := decide_eq_false c24
            clear c24
            by_cases c27 : (wrap64 (x12_1 + (wrap64 (1 + t273)))) < (wrap64 (Int.tdiv t238 2))
            ·rw [if_pos c27] at H
             have c27b0 : decide ((wrap64 (x12_1 + (wrap64 (1 + t273)))) < (wrap64 (Int.tdiv t238 2))) = true := decide_eq_true c27
             clear c27
             obtain rfl := Option.some.inj H
             have p272 : 0 ≤ (x13_1 : Int) := of_decide_eq_true (by first | (with_reducible assumption) | assumption)
             have q272 : x13_1 < (l1.length : Int) := of_decide_eq_true (by first | (with_reducible assumption) | assumption)
             obtain ⟨ad272, e272, hx272_0, hx272_1, hx272_2, hx272_3, hx272_4, hx272_5⟩ := at_T42 HR1.out x13_1 p272 q272
             cases e272
             replace hx272_0 := (HB.out.cell (World.block_lt_of_cell? w _ hx272_0)).trans hx272_0
             replace hx272_1 := (HB.out.cell (World.block_lt_of_cell? w _ hx272_1)).trans hx272_1
             replace hx272_2 := (HB.out.cell (World.block_lt_of_cell? w _ hx272_2)).trans hx272_2
             replace hx272_3 := (HB.out.cell (World.block_lt_of_cell? w _ hx272_3)).trans hx272_3
             replace hx272_4 := (HB.out.cell (World.block_lt_of_cell? w _ hx272_4)).trans hx272_4
             replace hx272_5 := (HB.out.cell (World.block_lt_of_cell? w _ hx272_5)).trans hx272_5
             replace p272 := eq_true p272
             replace q272 := eq_true q272
             try go_wp2_with (first | ((with_reducible refine gate_callee (f := 20) rfl ?_); refine goesL_ (some 45) rfl rfl Try.func20 (by kernel_rfl) rfl #[.int .i64 ((rd_T42 l1 x13_1).f2), .int .i64 1500] rfl (by (try simp only [List.map_toArray, List.map_cons, List.map_nil]); first | done | rfl | (simp only [List.length_drop, List.length_take]; rfl)) ?_; (with_reducible refine (flywheelkeep_Mod.calls ((rd_T42 l1 x13_1).f2) 1500 t273 _ A17.out).mono ?_); rintro e w' ⟨rfl, ⟨nd, rfl⟩⟩; refine ⟨_, rfl, ?_⟩))
             (try (rw [drewN_self wc]; generalize hq_ : World.drewN wc _ = wc; have n0_ : Aside0 (IsS75 w wc g218 x219000_1 x219001_1 x219002_1 x219003_1 x219004_1 x219005_1 x219006_1 x219007_1 x219008_1 x219009_1 x219010_1 x219011_1 x219012_1 x219013_1 x219014_1) := ⟨by rw [← hq_]; exact (by repeat (first | (with_reducible first | exact HI218.out | apply IsS75.alloc | apply IsS75.drewN | apply IsS75.drew | apply IsS75.set_0 | apply IsS75.set_1 | apply IsS75.set_2 | apply IsS75.set_3 | apply IsS75.set_4 | apply IsS75.set_5 | apply IsS75.set_6 | apply IsS75.set_7 | apply IsS75.set_8 | apply IsS75.set_9 | apply IsS75.set_10 | apply IsS75.set_11 | apply IsS75.set_12 | apply IsS75.set_13 | apply IsS75.set_14) | exact HI218.out))⟩; have n1_ : Aside0 (Below w.heap.size w wc) := ⟨by rw [← hq_]; exact (by repeat (first | (with_reducible first | exact HB.out | apply below_alloc | apply pw_below_drewN | apply below_drew1 | refine below_set ?_ (IsS75.ge HI218.out)) | exact HB.out))⟩; clear HI218 HB hq_; have HI218 := n0_; have HB := n1_; clear n0_ n1_))
             have n0_ := Aside0.mk (IsS75.drew HI218.out)
             have n1_ := Aside0.mk (below_drew1 HB.out)
             clear HI218
             clear HB
             have HI218 := n0_
             have HB := n1_
             clear n0_ n1_
             have p274 : 0 ≤ (x13_1 : Int) := of_decide_eq_true (by first | (with_reducible assumption) | assumption)
             have q274 : x13_1 < (l1.length : Int) := of_decide_eq_true (by first | (with_reducible assumption) | assumption)
             obtain ⟨ad274, e274, hx274_0, hx274_1, hx274_2, hx274_3, hx274_4, hx274_5⟩ := at_T42 HR1.out x13_1 p274 q274
             have hw274_5 := hx274_5
             have hw274_4 := hx274_4
             have hw274_3 := hx274_3
             have hw274_2 := hx274_2
             have hw274_1 := hx274_1
             have hw274_0 := hx274_0
             obtain rfl : ad272 = ad274 := (by injection e274)
             replace hx274_0 := (HB.out.cell (World.block_lt_of_cell? w _ hx274_0)).trans hx274_0
             replace hx274_1 := (HB.out.cell (World.block_lt_of_cell? w _ hx274_1)).trans hx274_1
             replace hx274_2 := (HB.out.cell (World.block_lt_of_cell? w _ hx274_2)).trans hx274_2
             replace hx274_3 := (HB.out.cell (World.block_lt_of_cell? w _ hx274_3)).trans hx274_3
             replace hx274_4 := (HB.out.cell (World.block_lt_of_cell? w _ hx274_4)).trans hx274_4
             replace hx274_5 := (HB.out.cell (World.block_lt_of_cell? w _ hx274_5)).trans hx274_5
             replace p274 := eq_true p274
             replace q274 := eq_true q274
             have p276 : 0 ≤ (x13_1 : Int) := of_decide_eq_true (by first | (with_reducible assumption) | assumption)
             have q276 : x13_1 < (l1.length : Int) := of_decide_eq_true (by first | (with_reducible assumption) | assumption)
             obtain ⟨ad276, e276, hx276_0, hx276_1, hx276_2, hx276_3, hx276_4, hx276_5⟩ := at_T42 HR1.out x13_1 p276 q276
             have hw276_5 := hx276_5
             have hw276_4 := hx276_4
             have hw276_3 := hx276_3
             have hw276_2 := hx276_2
             have hw276_1 := hx276_1
             have hw276_0 := hx276_0
             obtain rfl : ad272 = ad276 := (by injection e276)
             replace hx276_0 := (HB.out.cell (World.block_lt_of_cell? w _ hx276_0)).trans hx276_0
             replace hx276_1 := (HB.out.cell (World.block_lt_of_cell? w _ hx276_1)).trans hx276_1
             replace hx276_2 := (HB.out.cell (World.block_lt_of_cell? w _ hx276_2)).trans hx276_2
             replace hx276_3 := (HB.out.cell (World.block_lt_of_cell? w _ hx276_3)).trans hx276_3
             replace hx276_4 := (HB.out.cell (World.block_lt_of_cell? w _ hx276_4)).trans hx276_4
             replace hx276_5 := (HB.out.cell (World.block_lt_of_cell? w _ hx276_5)).trans hx276_5
             replace p276 := eq_true p276
             replace q276 := eq_true q276
             refine start_ (n := 16) (S := fun w' => w'.cell? (ad272.add ((x13_1).toNat * 6)) = some (.int .i64 ((rd_T42 l1 x13_1).f0)) ∧ w'.cell? ⟨(ad272.add ((x13_1).toNat * 6)).block, (ad272.add ((x13_1).toNat * 6)).off + 1, none⟩ = some (.int .i64 ((rd_T42 l1 x13_1).f1)) ∧ w'.cell? ⟨(ad272.add ((x13_1).toNat * 6)).block, (ad272.add ((x13_1).toNat * 6)).off + 2, none⟩ = some (.int .i64 ((rd_T42 l1 x13_1).f2)) ∧ w'.cell? ⟨(ad272.add ((x13_1).toNat * 6)).block, (ad272.add ((x13_1).toNat * 6)).off + 3, none⟩ = some (.int .i64 ((rd_T42 l1 x13_1).f3)) ∧ w'.cell? ⟨(ad272.add ((x13_1).toNat * 6)).block, (ad272.add ((x13_1).toNat * 6)).off + 4, none⟩ = some (.int .i64 ((rd_T42 l1 x13_1).f4)) ∧ w'.cell? ⟨(ad272.add ((x13_1).toNat * 6)).block, (ad272.add ((x13_1).toNat * 6)).off + 5, none⟩ = some (.int .i64 ((rd_T42 l1 x13_1).f5)) ∧ w'.cell? (ad272.add ((x13_1).toNat * 6)) = some (.int .i64 ((rd_T42 l1 x13_1).f0)) ∧ w'.cell? ⟨(ad272.add ((x13_1).toNat * 6)).block, (ad272.add ((x13_1).toNat * 6)).off + 1, none⟩ = some (.int .i64 ((rd_T42 l1 x13_1).f1)) ∧ w'.cell? ⟨(ad272.add ((x13_1).toNat * 6)).block, (ad272.add ((x13_1).toNat * 6)).off + 2, none⟩ = some (.int .i64 ((rd_T42 l1 x13_1).f2)) ∧ w'.cell? ⟨(ad272.add ((x13_1).toNat * 6)).block, (ad272.add ((x13_1).toNat * 6)).off + 3, none⟩ = some (.int .i64 ((rd_T42 l1 x13_1).f3)) ∧ w'.cell? ⟨(ad272.add ((x13_1).toNat * 6)).block, (ad272.add ((x13_1).toNat * 6)).off + 4, none⟩ = some (.int .i64 ((rd_T42 l1 x13_1).f4)) ∧ w'.cell? ⟨(ad272.add ((x13_1).toNat * 6)).block, (ad272.add ((x13_1).toNat * 6)).off + 5, none⟩ = some (.int .i64 ((rd_T42 l1 x13_1).f5))) (ds := []) #[false, false, false, false, false, false, false, false, false, false, false, false, false, false, false, false] (by kernel_rfl) rfl rfl ⟨((HB.out.cell (World.block_lt_of_cell? w _ hw274_0)).trans hw274_0), ((HB.out.cell (World.block_lt_of_cell? w _ hw274_1)).trans hw274_1), ((HB.out.cell (World.block_lt_of_cell? w _ hw274_2)).trans hw274_2), ((HB.out.cell (World.block_lt_of_cell? w _ hw274_3)).trans hw274_3), ((HB.out.cell (World.block_lt_of_cell? w _ hw274_4)).trans hw274_4), ((HB.out.cell (World.block_lt_of_cell? w _ hw274_5)).trans hw274_5), ((HB.out.cell (World.block_lt_of_cell? w _ hw276_0)).trans hw276_0), ((HB.out.cell (World.block_lt_of_cell? w _ hw276_1)).trans hw276_1), ((HB.out.cell (World.block_lt_of_cell? w _ hw276_2)).trans hw276_2), ((HB.out.cell (World.block_lt_of_cell? w _ hw276_3)).trans hw276_3), ((HB.out.cell (World.block_lt_of_cell? w _ hw276_4)).trans hw276_4), ((HB.out.cell (World.block_lt_of_cell? w _ hw276_5)).trans hw276_5)⟩ (fun hHeld => ?_); refine with_tabW flywheellaw26_ProbeFew.tab12 flywheellaw26_ProbeFew.bits12 (fun HT_ HW_ => ?_)
             generalize wc.drew = w28 at HI218 HB hx274_0 hx274_1 hx274_2 hx274_3 hx274_4 hx274_5 hx276_0 hx276_1 hx276_2 hx276_3 hx276_4 hx276_5 hHeld ⊢
             refine pure_ (i := 0) (N := some 50) (v := ?_) (a' := ?_) #[true, false, false, false, false, false, false, false, false, false, false, false, false, false, false, false] rfl rfl (any_of HT_.out (by kernel_rfl)) (fun _ _ _ h => h) (Or.inl ⟨by rfl, ?_⟩) ?_ ?_
             rotate_left
             ·intro w'
              go_simp
              with_reducible rfl
             rotate_left
             ·simp only [Act.put, List.setIfInBounds_toArray, List.set_cons_zero, List.set_cons_succ, i64_w, i32_w]
              rfl
             refine pure_ (i := 1) (N := some 51) (v := ?_) (a' := ?_) #[true, true, false, false, false, false, false, false, false, false, false, false, false, false, false, false] rfl rfl (any_of HT_.out (by kernel_rfl)) (fun _ _ _ h => h) (Or.inl ⟨by rfl, ?_⟩) ?_ ?_
             rotate_left
             ·intro w'
              go_simp
              with_reducible rfl
             rotate_left
             ·simp only [Act.put, List.setIfInBounds_toArray, List.set_cons_zero, List.set_cons_succ, i64_w, i32_w]
              rfl
             refine pure_ (i := 2) (N := some 52) (v := ?_) (a' := ?_) #[true, true, true, false, false, false, false, false, false, false, false, false, false, false, false, false] rfl rfl (any_of HT_.out (by kernel_rfl)) (fun _ _ _ h => h) (Or.inl ⟨by rfl, ?_⟩) ?_ ?_
             rotate_left
             ·intro w'
              go_simp
              with_reducible rfl
             rotate_left
             ·simp only [Act.put, List.setIfInBounds_toArray, List.set_cons_zero, List.set_cons_succ, i64_w, i32_w]
              rfl
             refine pure_ (i := 3) (N := some 53) (v := ?_) (a' := ?_) #[true, true, true, true, false, false, false, false, false, false, false, false, false, false, false, false] rfl rfl (any_of HT_.out (by kernel_rfl)) (fun _ _ _ h => h) (Or.inl ⟨by rfl, ?_⟩) ?_ ?_
             rotate_left
             ·intro w'
              go_simp
              with_reducible rfl
             rotate_left
             ·simp only [Act.put, List.setIfInBounds_toArray, List.set_cons_zero, List.set_cons_succ, i64_w, i32_w]
              rfl
             refine pure_ (i := 4) (N := some 54) (v := ?_) (a' := ?_) #[true, true, true, true, true, false, false, false, false, false, false, false, false, false, false, false] rfl rfl (any_of HT_.out (by kernel_rfl)) (fun _ _ _ h => h) (Or.inl ⟨by rfl, ?_⟩) ?_ ?_
             rotate_left
             ·intro w'
              go_simp
              with_reducible rfl
             rotate_left
             ·simp only [Act.put, List.setIfInBounds_toArray, List.set_cons_zero, List.set_cons_succ, i64_w, i32_w]
              rfl
             refine pure_ (i := 5) (N := some 55) (v := ?_) (a' := ?_) #[true, true, true, true, true, true, false, false, false, false, false, false, false, false, false, false] rfl rfl (any_of HT_.out (by kernel_rfl)) (fun _ _ _ h => h) (Or.inl ⟨by rfl, ?_⟩) ?_ ?_
             rotate_left
             ·intro w'
              go_simp
              with_reducible rfl
             rotate_left
             ·simp only [Act.put, List.setIfInBounds_toArray, List.set_cons_zero, List.set_cons_succ, i64_w, i32_w]
              rfl
             refine pure_ (i := 8) (N := some 58) (v := ?_) (a' := ?_) #[true, true, true, true, true, true, false, false, true, false, false, false, false, false, false, false] rfl rfl (any_of HT_.out (by kernel_rfl)) (fun _ _ _ h => h) (Or.inl ⟨by rfl, ?_⟩) ?_ ?_
             rotate_left
             ·intro w'
              go_simp
              with_reducible rfl
             rotate_left
             ·simp only [Act.put, List.setIfInBounds_toArray, List.set_cons_zero, List.set_cons_succ, i64_w, i32_w]
              rfl
             refine pure_ (i := 9) (N := some 59) (v := ?_) (a' := ?_) #[true, true, true, true, true, true, false, false, true, true, false, false, false, false, false, false] rfl rfl (any_of HT_.out (by kernel_rfl)) (fun _ _ _ h => h) (Or.inl ⟨by rfl, ?_⟩) ?_ ?_
             rotate_left
             ·intro w'
              go_simp
              with_reducible rfl
             rotate_left
             ·simp only [Act.put, List.setIfInBounds_toArray, List.set_cons_zero, List.set_cons_succ, i64_w, i32_w]
              rfl
             refine pure_ (i := 10) (N := some 60) (v := ?_) (a' := ?_) #[true, true, true, true, true, true, false, false, true, true, true, false, false, false, false, false] rfl rfl (any_of HT_.out (by kernel_rfl)) (fun _ _ _ h => h) (Or.inl ⟨by rfl, ?_⟩) ?_ ?_
             rotate_left
             ·intro w'
              go_simp
              with_reducible rfl
             rotate_left
             ·simp only [Act.put, List.setIfInBounds_toArray, List.set_cons_zero, List.set_cons_succ, i64_w, i32_w]
              rfl
             refine pure_ (i := 11) (N := some 61) (v := ?_) (a' := ?_) #[true, true, true, true, true, true, false, false, true, true, true, true, false, false, false, false] rfl rfl (any_of HT_.out (by kernel_rfl)) (fun _ _ _ h => h) (Or.inl ⟨by rfl, ?_⟩) ?_ ?_
             rotate_left
             ·intro w'
              go_simp
              with_reducible rfl
             rotate_left
             ·simp only [Act.put, List.setIfInBounds_toArray, List.set_cons_zero, List.set_cons_succ, i64_w, i32_w]
              rfl
             refine take_ (i := 6) (N := some 56) (v := ?_) (a' := ?_) #[true, true, true, true, true, true, true, false, true, true, true, true, false, false, false, false] rfl rfl (take_ofW HT_.out HW_.out (by kernel_rfl)) (fun _ _ _ h => h) (Or.inl ⟨by rfl, ?_⟩) hHeld ?_ ?_
             rotate_left
             ·rintro w' ⟨s0, s1, s2, s3, s4, s5, s6, s7, s8, s9, s10, s11⟩
              go_simp
              with_reducible rfl
             rotate_left
             ·simp only [Act.put, List.setIfInBounds_toArray, List.set_cons_zero, List.set_cons_succ, i64_w, i32_w]
              rfl
             refine take_ (i := 12) (N := some 62) (v := ?_) (a' := ?_) #[true, true, true, true, true, true, true, false, true, true, true, true, true, false, false, false] rfl rfl (take_ofW HT_.out HW_.out (by kernel_rfl)) (fun _ _ _ h => h) (Or.inl ⟨by rfl, ?_⟩) hHeld ?_ ?_
             rotate_left
             ·rintro w' ⟨s0, s1, s2, s3, s4, s5, s6, s7, s8, s9, s10, s11⟩
              go_simp
              with_reducible rfl
             rotate_left
             ·simp only [Act.put, List.setIfInBounds_toArray, List.set_cons_zero, List.set_cons_succ, i64_w, i32_w]
              rfl
             refine pure_ (i := 13) (N := some 63) (v := ?_) (a' := ?_) #[true, true, true, true, true, true, true, false, true, true, true, true, true, true, false, false] rfl rfl (any_of HT_.out (by kernel_rfl)) (fun _ _ _ h => h) (Or.inl ⟨by rfl, ?_⟩) ?_ ?_
             rotate_left
             ·intro w'
              go_simp
              with_reducible rfl
             rotate_left
             ·simp only [Act.put, List.setIfInBounds_toArray, List.set_cons_zero, List.set_cons_succ, i64_w, i32_w]
              rfl
             refine one_ (i := 7) (N := some 57) #[true, true, true, true, true, true, true, true, true, true, true, true, true, true, false, false] rfl rfl (one_of HT_.out (by kernel_rfl)) (by decide) (fun K hK => ?_)
             refine goes_ Try.func22 (by kernel_rfl) rfl #[.int .i64 ((rd_T42 l1 x13_1).f4), .int .i64 1099511627776] (by rfl) rfl rfl (by (try simp only [List.map_toArray, List.map_cons, List.map_nil]); first | done | rfl | (simp only [List.length_drop, List.length_take]; rfl)) ?_
             with_reducible refine (flywheelkeep_Mod64.calls ((rd_T42 l1 x13_1).f4) 1099511627776 t275 _ A18.out).mono ?_
             rintro e w' ⟨rfl, ⟨nd, rfl⟩⟩
             refine ⟨_, rfl, ?_⟩
             refine hK.out _ _ ⟨((HB.out.cell (World.block_lt_of_cell? w _ hw274_0)).trans hw274_0), ((HB.out.cell (World.block_lt_of_cell? w _ hw274_1)).trans hw274_1), ((HB.out.cell (World.block_lt_of_cell? w _ hw274_2)).trans hw274_2), ((HB.out.cell (World.block_lt_of_cell? w _ hw274_3)).trans hw274_3), ((HB.out.cell (World.block_lt_of_cell? w _ hw274_4)).trans hw274_4), ((HB.out.cell (World.block_lt_of_cell? w _ hw274_5)).trans hw274_5), ((HB.out.cell (World.block_lt_of_cell? w _ hw276_0)).trans hw276_0), ((HB.out.cell (World.block_lt_of_cell? w _ hw276_1)).trans hw276_1), ((HB.out.cell (World.block_lt_of_cell? w _ hw276_2)).trans hw276_2), ((HB.out.cell (World.block_lt_of_cell? w _ hw276_3)).trans hw276_3), ((HB.out.cell (World.block_lt_of_cell? w _ hw276_4)).trans hw276_4), ((HB.out.cell (World.block_lt_of_cell? w _ hw276_5)).trans hw276_5)⟩ (fun hHeld => ?_)
             clear hK K
             refine norm_ (a' := ?_) ?_ ?_
             rotate_left
             ·show Act.put _ (some 57) _ = _
              simp only [Act.put, List.setIfInBounds_toArray, List.set_cons_zero, List.set_cons_succ, i64_w, i32_w]
              rfl
             refine one_ (i := 14) (N := some 64) #[true, true, true, true, true, true, true, true, true, true, true, true, true, true, true, false] rfl rfl (one_of HT_.out (by kernel_rfl)) (by decide) (fun K hK => ?_)
             refine goes_ Try.func25 (by kernel_rfl) rfl #[.pointer (some ⟨g218, 0, none⟩), .int .i64 1, .int .i64 (wrap64 (1 + t273)), .int .i64 t275, .int .i64 (Int.tmod ((rd_T42 l1 x13_1).f5) 1099511627776)] (by rfl) rfl rfl (by (try simp only [List.map_toArray, List.map_cons, List.map_nil]); first | done | rfl | (simp only [List.length_drop, List.length_take]; rfl)) ?_
             with_reducible refine (probe_Probe_Got.calls kj11 g218 x219000_1 x219001_1 x219002_1 x219003_1 x219004_1 x219005_1 x219006_1 x219007_1 x219008_1 x219009_1 x219010_1 x219011_1 x219012_1 x219013_1 x219014_1 1 (wrap64 (1 + t273)) t275 (Int.tmod ((rd_T42 l1 x13_1).f5) 1099511627776) t277 t278 t279 t280 t281 t282 t283 t284 t285 t286 t287 t288 t289 t290 t291 t292 w _ ?side1 ?side2 A19.out).mono ?_
             (case side1 => repeat (first | (with_reducible first | exact HI218.out | apply IsS75.alloc | apply IsS75.drewN | apply IsS75.drew | apply IsS75.set_0 | apply IsS75.set_1 | apply IsS75.set_2 | apply IsS75.set_3 | apply IsS75.set_4 | apply IsS75.set_5 | apply IsS75.set_6 | apply IsS75.set_7 | apply IsS75.set_8 | apply IsS75.set_9 | apply IsS75.set_10 | apply IsS75.set_11 | apply IsS75.set_12 | apply IsS75.set_13 | apply IsS75.set_14) | exact HI218.out))
             (case side2 => repeat (first | (with_reducible first | exact HB.out | apply below_alloc | apply pw_below_drewN | apply below_drew1 | refine below_set ?_ (IsS75.ge HI218.out)) | exact HB.out))
             rintro e w29 ⟨rfl, hi, hb, hk⟩
             refine ⟨_, rfl, ?_⟩
             have n0_ := Aside0.mk (hb)
             have n1_ := Aside0.mk (hi)
             clear HB
             clear HI218
             have HB := n0_
             have HI218 := n1_
             clear n0_ n1_
             (try clear hb)
             (try clear hb2)
             (try clear hk)
             (try clear hi)
             refine hK.out _ _ ⟨((HB.out.cell (World.block_lt_of_cell? w _ hw274_0)).trans hw274_0), ((HB.out.cell (World.block_lt_of_cell? w _ hw274_1)).trans hw274_1), ((HB.out.cell (World.block_lt_of_cell? w _ hw274_2)).trans hw274_2), ((HB.out.cell (World.block_lt_of_cell? w _ hw274_3)).trans hw274_3), ((HB.out.cell (World.block_lt_of_cell? w _ hw274_4)).trans hw274_4), ((HB.out.cell (World.block_lt_of_cell? w _ hw274_5)).trans hw274_5), ((HB.out.cell (World.block_lt_of_cell? w _ hw276_0)).trans hw276_0), ((HB.out.cell (World.block_lt_of_cell? w _ hw276_1)).trans hw276_1), ((HB.out.cell (World.block_lt_of_cell? w _ hw276_2)).trans hw276_2), ((HB.out.cell (World.block_lt_of_cell? w _ hw276_3)).trans hw276_3), ((HB.out.cell (World.block_lt_of_cell? w _ hw276_4)).trans hw276_4), ((HB.out.cell (World.block_lt_of_cell? w _ hw276_5)).trans hw276_5)⟩ (fun hHeld => ?_)
             clear hK K
             refine norm_ (a' := ?_) ?_ ?_
             rotate_left
             ·show Act.put _ (some 64) _ = _
              simp only [Act.put, List.setIfInBounds_toArray, List.set_cons_zero, List.set_cons_succ, i64_w, i32_w]
              rfl
             refine pure_ (i := 15) (N := some 15) (v := ?_) (a' := ?_) #[true, true, true, true, true, true, true, true, true, true, true, true, true, true, true, true] rfl rfl (any_of HT_.out (by kernel_rfl)) (fun _ _ _ h => h) (Or.inl ⟨by rfl, ?_⟩) ?_ ?_
             rotate_left
             ·intro w'
              go_simp
              with_reducible rfl
             rotate_left
             ·simp only [Act.put, List.setIfInBounds_toArray, List.set_cons_zero, List.set_cons_succ, i64_w, i32_w]
              rfl
             refine done_ (done_of HT_.out (by kernel_rfl)) ?_
             try go_wp2
             go_ret
             exact ⟨by first | rfl | (simp [errW_none, errW_some] <;> rfl) | (simp [*, errW_none, errW_some] <;> rfl), by repeat (first | (with_reducible first | exact HB.out | apply below_alloc | apply pw_below_drewN | apply below_drew1 | refine below_set ?_ (IsS75.ge HI218.out)) | exact HB.out)⟩
            ·rw [if_neg c27] at H
             have c27b0 : decide ((wrap64 (x12_1 + (wrap64 (1 + t273)))) < (wrap64 (Int.tdiv t238 2))) = false := decide_eq_false c27
             clear c27
             have H' := Aside0.mk H
             clear H
             have p272 : 0 ≤ (x13_1 : Int) := of_decide_eq_true (by first | (with_reducible assumption) | assumption)
             have q272 : x13_1 < (l1.length : Int) := of_decide_eq_true (by first | (with_reducible assumption) | assumption)
             obtain ⟨ad272, e272, hx272_0, hx272_1, hx272_2, hx272_3, hx272_4, hx272_5⟩ := at_T42 HR1.out x13_1 p272 q272
             cases e272
             replace hx272_0 := (HB.out.cell (World.block_lt_of_cell? w _ hx272_0)).trans hx272_0
             replace hx272_1 := (HB.out.cell (World.block_lt_of_cell? w _ hx272_1)).trans hx272_1
             replace hx272_2 := (HB.out.cell (World.block_lt_of_cell? w _ hx272_2)).trans hx272_2
             replace hx272_3 := (HB.out.cell (World.block_lt_of_cell? w _ hx272_3)).trans hx272_3
             replace hx272_4 := (HB.out.cell (World.block_lt_of_cell? w _ hx272_4)).trans hx272_4
             replace hx272_5 := (HB.out.cell (World.block_lt_of_cell? w _ hx272_5)).trans hx272_5
             replace p272 := eq_true p272
             replace q272 := eq_true q272
             try go_wp2_with (first | ((with_reducible refine gate_callee (f := 20) rfl ?_); refine goesL_ (some 45) rfl rfl Try.func20 (by kernel_rfl) rfl #[.int .i64 ((rd_T42 l1 x13_1).f2), .int .i64 1500] rfl (by (try simp only [List.map_toArray, List.map_cons, List.map_nil]); first | done | rfl | (simp only [List.length_drop, List.length_take]; rfl)) ?_; (with_reducible refine (flywheelkeep_Mod.calls ((rd_T42 l1 x13_1).f2) 1500 t273 _ A17.out).mono ?_); rintro e w' ⟨rfl, ⟨nd, rfl⟩⟩; refine ⟨_, rfl, ?_⟩))
             (try (rw [drewN_self wc]; generalize hq_ : World.drewN wc _ = wc; have n0_ : Aside0 (IsS75 w wc g218 x219000_1 x219001_1 x219002_1 x219003_1 x219004_1 x219005_1 x219006_1 x219007_1 x219008_1 x219009_1 x219010_1 x219011_1 x219012_1 x219013_1 x219014_1) := ⟨by rw [← hq_]; exact (by repeat (first | (with_reducible first | exact HI218.out | apply IsS75.alloc | apply IsS75.drewN | apply IsS75.drew | apply IsS75.set_0 | apply IsS75.set_1 | apply IsS75.set_2 | apply IsS75.set_3 | apply IsS75.set_4 | apply IsS75.set_5 | apply IsS75.set_6 | apply IsS75.set_7 | apply IsS75.set_8 | apply IsS75.set_9 | apply IsS75.set_10 | apply IsS75.set_11 | apply IsS75.set_12 | apply IsS75.set_13 | apply IsS75.set_14) | exact HI218.out))⟩; have n1_ : Aside0 (Below w.heap.size w wc) := ⟨by rw [← hq_]; exact (by repeat (first | (with_reducible first | exact HB.out | apply below_alloc | apply pw_below_drewN | apply below_drew1 | refine below_set ?_ (IsS75.ge HI218.out)) | exact HB.out))⟩; clear HI218 HB hq_; have HI218 := n0_; have HB := n1_; clear n0_ n1_))
             have n0_ := Aside0.mk (IsS75.drew HI218.out)
             have n1_ := Aside0.mk (below_drew1 HB.out)
             clear HI218
             clear HB
             have HI218 := n0_
             have HB := n1_
             clear n0_ n1_
             have p274 : 0 ≤ (x13_1 : Int) := of_decide_eq_true (by first | (with_reducible assumption) | assumption)
             have q274 : x13_1 < (l1.length : Int) := of_decide_eq_true (by first | (with_reducible assumption) | assumption)
             obtain ⟨ad274, e274, hx274_0, hx274_1, hx274_2, hx274_3, hx274_4, hx274_5⟩ := at_T42 HR1.out x13_1 p274 q274
             have hw274_5 := hx274_5
             have hw274_4 := hx274_4
             have hw274_3 := hx274_3
             have hw274_2 := hx274_2
             have hw274_1 := hx274_1
             have hw274_0 := hx274_0
             obtain rfl : ad272 = ad274 := (by injection e274)
             replace hx274_0 := (HB.out.cell (World.block_lt_of_cell? w _ hx274_0)).trans hx274_0
             replace hx274_1 := (HB.out.cell (World.block_lt_of_cell? w _ hx274_1)).trans hx274_1
             replace hx274_2 := (HB.out.cell (World.block_lt_of_cell? w _ hx274_2)).trans hx274_2
             replace hx274_3 := (HB.out.cell (World.block_lt_of_cell? w _ hx274_3)).trans hx274_3
             replace hx274_4 := (HB.out.cell (World.block_lt_of_cell? w _ hx274_4)).trans hx274_4
             replace hx274_5 := (HB.out.cell (World.block_lt_of_cell? w _ hx274_5)).trans hx274_5
             replace p274 := eq_true p274
             replace q274 := eq_true q274
             have p276 : 0 ≤ (x13_1 : Int) := of_decide_eq_true (by first | (with_reducible assumption) | assumption)
             have q276 : x13_1 < (l1.length : Int) := of_decide_eq_true (by first | (with_reducible assumption) | assumption)
             obtain ⟨ad276, e276, hx276_0, hx276_1, hx276_2, hx276_3, hx276_4, hx276_5⟩ := at_T42 HR1.out x13_1 p276 q276
             have hw276_5 := hx276_5
             have hw276_4 := hx276_4
             have hw276_3 := hx276_3
             have hw276_2 := hx276_2
             have hw276_1 := hx276_1
             have hw276_0 := hx276_0
             obtain rfl : ad272 = ad276 := (by injection e276)
             replace hx276_0 := (HB.out.cell (World.block_lt_of_cell? w _ hx276_0)).trans hx276_0
             replace hx276_1 := (HB.out.cell (World.block_lt_of_cell? w _ hx276_1)).trans hx276_1
             replace hx276_2 := (HB.out.cell (World.block_lt_of_cell? w _ hx276_2)).trans hx276_2
             replace hx276_3 := (HB.out.cell (World.block_lt_of_cell? w _ hx276_3)).trans hx276_3
             replace hx276_4 := (HB.out.cell (World.block_lt_of_cell? w _ hx276_4)).trans hx276_4
             replace hx276_5 := (HB.out.cell (World.block_lt_of_cell? w _ hx276_5)).trans hx276_5
             replace p276 := eq_true p276
             replace q276 := eq_true q276
             refine start_ (n := 16) (S := fun w' => w'.cell? (ad272.add ((x13_1).toNat * 6)) = some (.int .i64 ((rd_T42 l1 x13_1).f0)) ∧ w'.cell? ⟨(ad272.add ((x13_1).toNat * 6)).block, (ad272.add ((x13_1).toNat * 6)).off + 1, none⟩ = some (.int .i64 ((rd_T42 l1 x13_1).f1)) ∧ w'.cell? ⟨(ad272.add ((x13_1).toNat * 6)).block, (ad272.add ((x13_1).toNat * 6)).off + 2, none⟩ = some (.int .i64 ((rd_T42 l1 x13_1).f2)) ∧ w'.cell? ⟨(ad272.add ((x13_1).toNat * 6)).block, (ad272.add ((x13_1).toNat * 6)).off + 3, none⟩ = some (.int .i64 ((rd_T42 l1 x13_1).f3)) ∧ w'.cell? ⟨(ad272.add ((x13_1).toNat * 6)).block, (ad272.add ((x13_1).toNat * 6)).off + 4, none⟩ = some (.int .i64 ((rd_T42 l1 x13_1).f4)) ∧ w'.cell? ⟨(ad272.add ((x13_1).toNat * 6)).block, (ad272.add ((x13_1).toNat * 6)).off + 5, none⟩ = some (.int .i64 ((rd_T42 l1 x13_1).f5)) ∧ w'.cell? (ad272.add ((x13_1).toNat * 6)) = some (.int .i64 ((rd_T42 l1 x13_1).f0)) ∧ w'.cell? ⟨(ad272.add ((x13_1).toNat * 6)).block, (ad272.add ((x13_1).toNat * 6)).off + 1, none⟩ = some (.int .i64 ((rd_T42 l1 x13_1).f1)) ∧ w'.cell? ⟨(ad272.add ((x13_1).toNat * 6)).block, (ad272.add ((x13_1).toNat * 6)).off + 2, none⟩ = some (.int .i64 ((rd_T42 l1 x13_1).f2)) ∧ w'.cell? ⟨(ad272.add ((x13_1).toNat * 6)).block, (ad272.add ((x13_1).toNat * 6)).off + 3, none⟩ = some (.int .i64 ((rd_T42 l1 x13_1).f3)) ∧ w'.cell? ⟨(ad272.add ((x13_1).toNat * 6)).block, (ad272.add ((x13_1).toNat * 6)).off + 4, none⟩ = some (.int .i64 ((rd_T42 l1 x13_1).f4)) ∧ w'.cell? ⟨(ad272.add ((x13_1).toNat * 6)).block, (ad272.add ((x13_1).toNat * 6)).off + 5, none⟩ = some (.int .i64 ((rd_T42 l1 x13_1).f5))) (ds := []) #[false, false, false, false, false, false, false, false, false, false, false, false, false, false, false, false] (by kernel_rfl) rfl rfl ⟨((HB.out.cell (World.block_lt_of_cell? w _ hw274_0)).trans hw274_0), ((HB.out.cell (World.block_lt_of_cell? w _ hw274_1)).trans hw274_1), ((HB.out.cell (World.block_lt_of_cell? w _ hw274_2)).trans hw274_2), ((HB.out.cell (World.block_lt_of_cell? w _ hw274_3)).trans hw274_3), ((HB.out.cell (World.block_lt_of_cell? w _ hw274_4)).trans hw274_4), ((HB.out.cell (World.block_lt_of_cell? w _ hw274_5)).trans hw274_5), ((HB.out.cell (World.block_lt_of_cell? w _ hw276_0)).trans hw276_0), ((HB.out.cell (World.block_lt_of_cell? w _ hw276_1)).trans hw276_1), ((HB.out.cell (World.block_lt_of_cell? w _ hw276_2)).trans hw276_2), ((HB.out.cell (World.block_lt_of_cell? w _ hw276_3)).trans hw276_3), ((HB.out.cell (World.block_lt_of_cell? w _ hw276_4)).trans hw276_4), ((HB.out.cell (World.block_lt_of_cell? w _ hw276_5)).trans hw276_5)⟩ (fun hHeld => ?_); refine with_tabW flywheellaw26_ProbeFew.tab12 flywheellaw26_ProbeFew.bits12 (fun HT_ HW_ => ?_)
             generalize wc.drew = w30 at HI218 HB hx274_0 hx274_1 hx274_2 hx274_3 hx274_4 hx274_5 hx276_0 hx276_1 hx276_2 hx276_3 hx276_4 hx276_5 hHeld ⊢
             refine pure_ (i := 0) (N := some 50) (v := ?_) (a' := ?_) #[true, false, false, false, false, false, false, false, false, false, false, false, false, false, false, false] rfl rfl (any_of HT_.out (by kernel_rfl)) (fun _ _ _ h => h) (Or.inl ⟨by rfl, ?_⟩) ?_ ?_
             rotate_left
             ·intro w'
              go_simp
              with_reducible rfl
             rotate_left
             ·simp only [Act.put, List.setIfInBounds_toArray, List.set_cons_zero, List.set_cons_succ, i64_w, i32_w]
              rfl
             refine pure_ (i := 1) (N := some 51) (v := ?_) (a' := ?_) #[true, true, false, false, false, false, false, false, false, false, false, false, false, false, false, false] rfl rfl (any_of HT_.out (by kernel_rfl)) (fun _ _ _ h => h) (Or.inl ⟨by rfl, ?_⟩) ?_ ?_
             rotate_left
             ·intro w'
              go_simp
              with_reducible rfl
             rotate_left
             ·simp only [Act.put, List.setIfInBounds_toArray, List.set_cons_zero, List.set_cons_succ, i64_w, i32_w]
              rfl
             refine pure_ (i := 2) (N := some 52) (v := ?_) (a' := ?_) #[true, true, true, false, false, false, false, false, false, false, false, false, false, false, false, false] rfl rfl (any_of HT_.out (by kernel_rfl)) (fun _ _ _ h => h) (Or.inl ⟨by rfl, ?_⟩) ?_ ?_
             rotate_left
             ·intro w'
              go_simp
              with_reducible rfl
             rotate_left
             ·simp only [Act.put, List.setIfInBounds_toArray, List.set_cons_zero, List.set_cons_succ, i64_w, i32_w]
              rfl
             refine pure_ (i := 3) (N := some 53) (v := ?_) (a' := ?_) #[true, true, true, true, false, false, false, false, false, false, false, false, false, false, false, false] rfl rfl (any_of HT_.out (by kernel_rfl)) (fun _ _ _ h => h) (Or.inl ⟨by rfl, ?_⟩) ?_ ?_
             rotate_left
             ·intro w'
              go_simp
              with_reducible rfl
             rotate_left
             ·simp only [Act.put, List.setIfInBounds_toArray, List.set_cons_zero, List.set_cons_succ, i64_w, i32_w]
              rfl
             refine pure_ (i := 4) (N := some 54) (v := ?_) (a' := ?_) #[true, true, true, true, true, false, false, false, false, false, false, false, false, false, false, false] rfl rfl (any_of HT_.out (by kernel_rfl)) (fun _ _ _ h => h) (Or.inl ⟨by rfl, ?_⟩) ?_ ?_
             rotate_left
             ·intro w'
              go_simp
              with_reducible rfl
             rotate_left
             ·simp only [Act.put, List.setIfInBounds_toArray, List.set_cons_zero, List.set_cons_succ, i64_w, i32_w]
              rfl
             refine pure_ (i := 5) (N := some 55) (v := ?_) (a' := ?_) #[true, true, true, true, true, true, false, false, false, false, false, false, false, false, false, false] rfl rfl (any_of HT_.out (by kernel_rfl)) (fun _ _ _ h => h) (Or.inl ⟨by rfl, ?_⟩) ?_ ?_
             rotate_left
             ·intro w'
              go_simp
              with_reducible rfl
             rotate_left
             ·simp only [Act.put, List.setIfInBounds_toArray, List.set_cons_zero, List.set_cons_succ, i64_w, i32_w]
              rfl
             refine pure_ (i := 8) (N := some 58) (v := ?_) (a' := ?_) #[true, true, true, true, true, true, false, false, true, false, false, false, false, false, false, false] rfl rfl (any_of HT_.out (by kernel_rfl)) (fun _ _ _ h => h) (Or.inl ⟨by rfl, ?_⟩) ?_ ?_
             rotate_left
             ·intro w'
              go_simp
              with_reducible rfl
             rotate_left
             ·simp only [Act.put, List.setIfInBounds_toArray, List.set_cons_zero, List.set_cons_succ, i64_w, i32_w]
              rfl
             refine pure_ (i := 9) (N := some 59) (v := ?_) (a' := ?_) #[true, true, true, true, true, true, false, false, true, true, false, false, false, false, false, false] rfl rfl (any_of HT_.out (by kernel_rfl)) (fun _ _ _ h => h) (Or.inl ⟨by rfl, ?_⟩) ?_ ?_
             rotate_left
             ·intro w'
              go_simp
              with_reducible rfl
             rotate_left
             ·simp only [Act.put, List.setIfInBounds_toArray, List.set_cons_zero, List.set_cons_succ, i64_w, i32_w]
              rfl
             refine pure_ (i := 10) (N := some 60) (v := ?_) (a' := ?_) #[true, true, true, true, true, true, false, false, true, true, true, false, false, false, false, false] rfl rfl (any_of HT_.out (by kernel_rfl)) (fun _ _ _ h => h) (Or.inl ⟨by rfl, ?_⟩) ?_ ?_
             rotate_left
             ·intro w'
              go_simp
              with_reducible rfl
             rotate_left
             ·simp only [Act.put, List.setIfInBounds_toArray, List.set_cons_zero, List.set_cons_succ, i64_w, i32_w]
              rfl
             refine pure_ (i := 11) (N := some 61) (v := ?_) (a' := ?_) #[true, true, true, true, true, true, false, false, true, true, true, true, false, false, false, false] rfl rfl (any_of HT_.out (by kernel_rfl)) (fun _ _ _ h => h) (Or.inl ⟨by rfl, ?_⟩) ?_ ?_
             rotate_left
             ·intro w'
              go_simp
              with_reducible rfl
             rotate_left
             ·simp only [Act.put, List.setIfInBounds_toArray, List.set_cons_zero, List.set_cons_succ, i64_w, i32_w]
              rfl
             refine take_ (i := 6) (N := some 56) (v := ?_) (a' := ?_) #[true, true, true, true, true, true, true, false, true, true, true, true, false, false, false, false] rfl rfl (take_ofW HT_.out HW_.out (by kernel_rfl)) (fun _ _ _ h => h) (Or.inl ⟨by rfl, ?_⟩) hHeld ?_ ?_
             rotate_left
             ·rintro w' ⟨s0, s1, s2, s3, s4, s5, s6, s7, s8, s9, s10, s11⟩
              go_simp
              with_reducible rfl
             rotate_left
             ·simp only [Act.put, List.setIfInBounds_toArray, List.set_cons_zero, List.set_cons_succ, i64_w, i32_w]
              rfl
             refine take_ (i := 12) (N := some 62) (v := ?_) (a' := ?_) #[true, true, true, true, true, true, true, false, true, true, true, true, true, false, false, false] rfl rfl (take_ofW HT_.out HW_.out (by kernel_rfl)) (fun _ _ _ h => h) (Or.inl ⟨by rfl, ?_⟩) hHeld ?_ ?_
             rotate_left
             ·rintro w' ⟨s0, s1, s2, s3, s4, s5, s6, s7, s8, s9, s10, s11⟩
              go_simp
              with_reducible rfl
             rotate_left
             ·simp only [Act.put, List.setIfInBounds_toArray, List.set_cons_zero, List.set_cons_succ, i64_w, i32_w]
              rfl
             refine pure_ (i := 13) (N := some 63) (v := ?_) (a' := ?_) #[true, true, true, true, true, true, true, false, true, true, true, true, true, true, false, false] rfl rfl (any_of HT_.out (by kernel_rfl)) (fun _ _ _ h => h) (Or.inl ⟨by rfl, ?_⟩) ?_ ?_
             rotate_left
             ·intro w'
              go_simp
              with_reducible rfl
             rotate_left
             ·simp only [Act.put, List.setIfInBounds_toArray, List.set_cons_zero, List.set_cons_succ, i64_w, i32_w]
              rfl
             refine one_ (i := 7) (N := some 57) #[true, true, true, true, true, true, true, true, true, true, true, true, true, true, false, false] rfl rfl (one_of HT_.out (by kernel_rfl)) (by decide) (fun K hK => ?_)
             refine goes_ Try.func22 (by kernel_rfl) rfl #[.int .i64 ((rd_T42 l1 x13_1).f4), .int .i64 1099511627776] (by rfl) rfl rfl (by (try simp only [List.map_toArray, List.map_cons, List.map_nil]); first | done | rfl | (simp only [List.length_drop, List.length_take]; rfl)) ?_
             with_reducible refine (flywheelkeep_Mod64.calls ((rd_T42 l1 x13_1).f4) 1099511627776 t275 _ A18.out).mono ?_
             rintro e w' ⟨rfl, ⟨nd, rfl⟩⟩
             refine ⟨_, rfl, ?_⟩
             refine hK.out _ _ ⟨((HB.out.cell (World.block_lt_of_cell? w _ hw274_0)).trans hw274_0), ((HB.out.cell (World.block_lt_of_cell? w _ hw274_1)).trans hw274_1), ((HB.out.cell (World.block_lt_of_cell? w _ hw274_2)).trans hw274_2), ((HB.out.cell (World.block_lt_of_cell? w _ hw274_3)).trans hw274_3), ((HB.out.cell (World.block_lt_of_cell? w _ hw274_4)).trans hw274_4), ((HB.out.cell (World.block_lt_of_cell? w _ hw274_5)).trans hw274_5), ((HB.out.cell (World.block_lt_of_cell? w _ hw276_0)).trans hw276_0), ((HB.out.cell (World.block_lt_of_cell? w _ hw276_1)).trans hw276_1), ((HB.out.cell (World.block_lt_of_cell? w _ hw276_2)).trans hw276_2), ((HB.out.cell (World.block_lt_of_cell? w _ hw276_3)).trans hw276_3), ((HB.out.cell (World.block_lt_of_cell? w _ hw276_4)).trans hw276_4), ((HB.out.cell (World.block_lt_of_cell? w _ hw276_5)).trans hw276_5)⟩ (fun hHeld => ?_)
             clear hK K
             refine norm_ (a' := ?_) ?_ ?_
             rotate_left
             ·show Act.put _ (some 57) _ = _
              simp only [Act.put, List.setIfInBounds_toArray, List.set_cons_zero, List.set_cons_succ, i64_w, i32_w]
              rfl
             refine one_ (i := 14) (N := some 64) #[true, true, true, true, true, true, true, true, true, true, true, true, true, true, true, false] rfl rfl (one_of HT_.out (by kernel_rfl)) (by decide) (fun K hK => ?_)
             refine goes_ Try.func25 (by kernel_rfl) rfl #[.pointer (some ⟨g218, 0, none⟩), .int .i64 1, .int .i64 (wrap64 (1 + t273)), .int .i64 t275, .int .i64 (Int.tmod ((rd_T42 l1 x13_1).f5) 1099511627776)] (by rfl) rfl rfl (by (try simp only [List.map_toArray, List.map_cons, List.map_nil]); first | done | rfl | (simp only [List.length_drop, List.length_take]; rfl)) ?_
             with_reducible refine (probe_Probe_Got.calls kj11 g218 x219000_1 x219001_1 x219002_1 x219003_1 x219004_1 x219005_1 x219006_1 x219007_1 x219008_1 x219009_1 x219010_1 x219011_1 x219012_1 x219013_1 x219014_1 1 (wrap64 (1 + t273)) t275 (Int.tmod ((rd_T42 l1 x13_1).f5) 1099511627776) t277 t278 t279 t280 t281 t282 t283 t284 t285 t286 t287 t288 t289 t290 t291 t292 w _ ?side1 ?side2 A19.out).mono ?_
             (case side1 => repeat (first | (with_reducible first | exact HI218.out | apply IsS75.alloc | apply IsS75.drewN | apply IsS75.drew | apply IsS75.set_0 | apply IsS75.set_1 | apply IsS75.set_2 | apply IsS75.set_3 | apply IsS75.set_4 | apply IsS75.set_5 | apply IsS75.set_6 | apply IsS75.set_7 | apply IsS75.set_8 | apply IsS75.set_9 | apply IsS75.set_10 | apply IsS75.set_11 | apply IsS75.set_12 | apply IsS75.set_13 | apply IsS75.set_14) | exact HI218.out))
             (case side2 => repeat (first | (with_reducible first | exact HB.out | apply below_alloc | apply pw_below_drewN | apply below_drew1 | refine below_set ?_ (IsS75.ge HI218.out)) | exact HB.out))
             rintro e w31 ⟨rfl, hi, hb, hk⟩
             refine ⟨_, rfl, ?_⟩
             have n0_ := Aside0.mk (hb)
             have n1_ := Aside0.mk (hi)
             clear HB
             clear HI218
             have HB := n0_
             have HI218 := n1_
             clear n0_ n1_
             (try clear hb)
             (try clear hb2)
             (try clear hk)
             (try clear hi)
             refine hK.out _ _ ⟨((HB.out.cell (World.block_lt_of_cell? w _ hw274_0)).trans hw274_0), ((HB.out.cell (World.block_lt_of_cell? w _ hw274_1)).trans hw274_1), ((HB.out.cell (World.block_lt_of_cell? w _ hw274_2)).trans hw274_2), ((HB.out.cell (World.block_lt_of_cell? w _ hw274_3)).trans hw274_3), ((HB.out.cell (World.block_lt_of_cell? w _ hw274_4)).trans hw274_4), ((HB.out.cell (World.block_lt_of_cell? w _ hw274_5)).trans hw274_5), ((HB.out.cell (World.block_lt_of_cell? w _ hw276_0)).trans hw276_0), ((HB.out.cell (World.block_lt_of_cell? w _ hw276_1)).trans hw276_1), ((HB.out.cell (World.block_lt_of_cell? w _ hw276_2)).trans hw276_2), ((HB.out.cell (World.block_lt_of_cell? w _ hw276_3)).trans hw276_3), ((HB.out.cell (World.block_lt_of_cell? w _ hw276_4)).trans hw276_4), ((HB.out.cell (World.block_lt_of_cell? w _ hw276_5)).trans hw276_5)⟩ (fun hHeld => ?_)
             clear hK K
             refine norm_ (a' := ?_) ?_ ?_
             rotate_left
             ·show Act.put _ (some 64) _ = _
              simp only [Act.put, List.setIfInBounds_toArray, List.set_cons_zero, List.set_cons_succ, i64_w, i32_w]
              rfl
             refine pure_ (i := 15) (N := some 15) (v := ?_) (a' := ?_) #[true, true, true, true, true, true, true, true, true, true, true, true, true, true, true, true] rfl rfl (any_of HT_.out (by kernel_rfl)) (fun _ _ _ h => h) (Or.inl ⟨by rfl, ?_⟩) ?_ ?_
             rotate_left
             ·intro w'
              go_simp
              with_reducible rfl
             rotate_left
             ·simp only [Act.put, List.setIfInBounds_toArray, List.set_cons_zero, List.set_cons_succ, i64_w, i32_w]
              rfl
             refine done_ (done_of HT_.out (by kernel_rfl)) ?_
             try go_wp2
             go_roundg kj11
             case measure => have := HK1.out; have := HJ11.out; omega
             case rel => exact ⟨(wrap64 (x12_1 + (wrap64 (1 + t273)))), (wrap64 (x13_1 + 1)), (t278), (t279), (t280), (t281), (t282), (t283), (t284), (t285), (t286), (t287), (t288), (t289), (t290), (t291), (t292), (by first | rfl | (simp; done) | (simp [*]; done)), (by first | rfl | (simp; done) | (simp [*]; done)), H', ⟨by have := HK1.out; have := HJ11.out; omega⟩, ⟨by repeat (first | (with_reducible first | exact HI218.out | apply IsS75.alloc | apply IsS75.drewN | apply IsS75.drew | apply IsS75.set_0 | apply IsS75.set_1 | apply IsS75.set_2 | apply IsS75.set_3 | apply IsS75.set_4 | apply IsS75.set_5 | apply IsS75.set_6 | apply IsS75.set_7 | apply IsS75.set_8 | apply IsS75.set_9 | apply IsS75.set_10 | apply IsS75.set_11 | apply IsS75.set_12 | apply IsS75.set_13 | apply IsS75.set_14) | exact HI218.out)⟩, ⟨by repeat (first | (with_reducible first | exact HB.out | apply below_alloc | apply pw_below_drewN | apply below_drew1 | refine below_set ?_ (IsS75.ge HI218.out)) | exact HB.out)⟩⟩
          ·rw [if_neg c23] at H
           have c23b0 : decide (0 < t277) = false := decide_eq_false c23
           clear c23
           have H' := Aside0.mk H
           clear H
           have p272 : 0 ≤ (x13_1 : Int) := of_decide_eq_true (by first | (with_reducible assumption) | assumption)
           have q272 : x13_1 < (l1.length : Int) := of_decide_eq_true (by first | (with_reducible assumption) | assumption)
           obtain ⟨ad272, e272, hx272_0, hx272_1, hx272_2, hx272_3, hx272_4, hx272_5⟩ := at_T42 HR1.out x13_1 p272 q272
           cases e272
           replace hx272_0 := (HB.out.cell (World.block_lt_of_cell? w _ hx272_0)).trans hx272_0
           replace hx272_1 := (HB.out.cell (World.block_lt_of_cell? w _ hx272_1)).trans hx272_1
           replace hx272_2 := (HB.out.cell (World.block_lt_of_cell? w _ hx272_2)).trans hx272_2
           replace hx272_3 := (HB.out.cell (World.block_lt_of_cell? w _ hx272_3)).trans hx272_3
           replace hx272_4 := (HB.out.cell (World.block_lt_of_cell? w _ hx272_4)).trans hx272_4
           replace hx272_5 := (HB.out.cell (World.block_lt_of_cell? w _ hx272_5)).trans hx272_5
           replace p272 := eq_true p272
           replace q272 := eq_true q272
           try go_wp2_with (first | ((with_reducible refine gate_callee (f := 20) rfl ?_); refine goesL_ (some 45) rfl rfl Try.func20 (by kernel_rfl) rfl #[.int .i64 ((rd_T42 l1 x13_1).f2), .int .i64 1500] rfl (by (try simp only [List.map_toArray, List.map_cons, List.map_nil]); first | done | rfl | (simp only [List.length_drop, List.length_take]; rfl)) ?_; (with_reducible refine (flywheelkeep_Mod.calls ((rd_T42 l1 x13_1).f2) 1500 t273 _ A17.out).mono ?_); rintro e w' ⟨rfl, ⟨nd, rfl⟩⟩; refine ⟨_, rfl, ?_⟩))
           (try (rw [drewN_self wc]; generalize hq_ : World.drewN wc _ = wc; have n0_ : Aside0 (IsS75 w wc g218 x219000_1 x219001_1 x219002_1 x219003_1 x219004_1 x219005_1 x219006_1 x219007_1 x219008_1 x219009_1 x219010_1 x219011_1 x219012_1 x219013_1 x219014_1) := ⟨by rw [← hq_]; exact (by repeat (first | (with_reducible first | exact HI218.out | apply IsS75.alloc | apply IsS75.drewN | apply IsS75.drew | apply IsS75.set_0 | apply IsS75.set_1 | apply IsS75.set_2 | apply IsS75.set_3 | apply IsS75.set_4 | apply IsS75.set_5 | apply IsS75.set_6 | apply IsS75.set_7 | apply IsS75.set_8 | apply IsS75.set_9 | apply IsS75.set_10 | apply IsS75.set_11 | apply IsS75.set_12 | apply IsS75.set_13 | apply IsS75.set_14) | exact HI218.out))⟩; have n1_ : Aside0 (Below w.heap.size w wc) := ⟨by rw [← hq_]; exact (by repeat (first | (with_reducible first | exact HB.out | apply below_alloc | apply pw_below_drewN | apply below_drew1 | refine below_set ?_ (IsS75.ge HI218.out)) | exact HB.out))⟩; clear HI218 HB hq_; have HI218 := n0_; have HB := n1_; clear n0_ n1_))
           have n0_ := Aside0.mk (IsS75.drew HI218.out)
           have n1_ := Aside0.mk (below_drew1 HB.out)
           clear HI218
           clear HB
           have HI218 := n0_
           have HB := n1_
           clear n0_ n1_
           have p274 : 0 ≤ (x13_1 : Int) := of_decide_eq_true (by first | (with_reducible assumption) | assumption)
           have q274 : x13_1 < (l1.length : Int) := of_decide_eq_true (by first | (with_reducible assumption) | assumption)
           obtain ⟨ad274, e274, hx274_0, hx274_1, hx274_2, hx274_3, hx274_4, hx274_5⟩ := at_T42 HR1.out x13_1 p274 q274
           have hw274_5 := hx274_5
           have hw274_4 := hx274_4
           have hw274_3 := hx274_3
           have hw274_2 := hx274_2
           have hw274_1 := hx274_1
           have hw274_0 := hx274_0
           obtain rfl : ad272 = ad274 := (by injection e274)
           replace hx274_0 := (HB.out.cell (World.block_lt_of_cell? w _ hx274_0)).trans hx274_0
           replace hx274_1 := (HB.out.cell (World.block_lt_of_cell? w _ hx274_1)).trans hx274_1
           replace hx274_2 := (HB.out.cell (World.block_lt_of_cell? w _ hx274_2)).trans hx274_2
           replace hx274_3 := (HB.out.cell (World.block_lt_of_cell? w _ hx274_3)).trans hx274_3
           replace hx274_4 := (HB.out.cell (World.block_lt_of_cell? w _ hx274_4)).trans hx274_4
           replace hx274_5 := (HB.out.cell (World.block_lt_of_cell? w _ hx274_5)).trans hx274_5
           replace p274 := eq_true p274
           replace q274 := eq_true q274
           have p276 : 0 ≤ (x13_1 : Int) := of_decide_eq_true (by first | (with_reducible assumption) | assumption)
           have q276 : x13_1 < (l1.length : Int) := of_decide_eq_true (by first | (with_reducible assumption) | assumption)
           obtain ⟨ad276, e276, hx276_0, hx276_1, hx276_2, hx276_3, hx276_4, hx276_5⟩ := at_T42 HR1.out x13_1 p276 q276
           have hw276_5 := hx276_5
           have hw276_4 := hx276_4
           have hw276_3 := hx276_3
           have hw276_2 := hx276_2
           have hw276_1 := hx276_1
           have hw276_0 := hx276_0
           obtain rfl : ad272 = ad276 := (by injection e276)
           replace hx276_0 := (HB.out.cell (World.block_lt_of_cell? w _ hx276_0)).trans hx276_0
           replace hx276_1 := (HB.out.cell (World.block_lt_of_cell? w _ hx276_1)).trans hx276_1
           replace hx276_2 := (HB.out.cell (World.block_lt_of_cell? w _ hx276_2)).trans hx276_2
           replace hx276_3 := (HB.out.cell (World.block_lt_of_cell? w _ hx276_3)).trans hx276_3
           replace hx276_4 := (HB.out.cell (World.block_lt_of_cell? w _ hx276_4)).trans hx276_4
           replace hx276_5 := (HB.out.cell (World.block_lt_of_cell? w _ hx276_5)).trans hx276_5
           replace p276 := eq_true p276
           replace q276 := eq_true q276
           refine start_ (n := 16) (S := fun w' => w'.cell? (ad272.add ((x13_1).toNat * 6)) = some (.int .i64 ((rd_T42 l1 x13_1).f0)) ∧ w'.cell? ⟨(ad272.add ((x13_1).toNat * 6)).block, (ad272.add ((x13_1).toNat * 6)).off + 1, none⟩ = some (.int .i64 ((rd_T42 l1 x13_1).f1)) ∧ w'.cell? ⟨(ad272.add ((x13_1).toNat * 6)).block, (ad272.add ((x13_1).toNat * 6)).off + 2, none⟩ = some (.int .i64 ((rd_T42 l1 x13_1).f2)) ∧ w'.cell? ⟨(ad272.add ((x13_1).toNat * 6)).block, (ad272.add ((x13_1).toNat * 6)).off + 3, none⟩ = some (.int .i64 ((rd_T42 l1 x13_1).f3)) ∧ w'.cell? ⟨(ad272.add ((x13_1).toNat * 6)).block, (ad272.add ((x13_1).toNat * 6)).off + 4, none⟩ = some (.int .i64 ((rd_T42 l1 x13_1).f4)) ∧ w'.cell? ⟨(ad272.add ((x13_1).toNat * 6)).block, (ad272.add ((x13_1).toNat * 6)).off + 5, none⟩ = some (.int .i64 ((rd_T42 l1 x13_1).f5)) ∧ w'.cell? (ad272.add ((x13_1).toNat * 6)) = some (.int .i64 ((rd_T42 l1 x13_1).f0)) ∧ w'.cell? ⟨(ad272.add ((x13_1).toNat * 6)).block, (ad272.add ((x13_1).toNat * 6)).off + 1, none⟩ = some (.int .i64 ((rd_T42 l1 x13_1).f1)) ∧ w'.cell? ⟨(ad272.add ((x13_1).toNat * 6)).block, (ad272.add ((x13_1).toNat * 6)).off + 2, none⟩ = some (.int .i64 ((rd_T42 l1 x13_1).f2)) ∧ w'.cell? ⟨(ad272.add ((x13_1).toNat * 6)).block, (ad272.add ((x13_1).toNat * 6)).off + 3, none⟩ = some (.int .i64 ((rd_T42 l1 x13_1).f3)) ∧ w'.cell? ⟨(ad272.add ((x13_1).toNat * 6)).block, (ad272.add ((x13_1).toNat * 6)).off + 4, none⟩ = some (.int .i64 ((rd_T42 l1 x13_1).f4)) ∧ w'.cell? ⟨(ad272.add ((x13_1).toNat * 6)).block, (ad272.add ((x13_1).toNat * 6)).off + 5, none⟩ = some (.int .i64 ((rd_T42 l1 x13_1).f5))) (ds := []) #[false, false, false, false, false, false, false, false, false, false, false, false, false, false, false, false] (by kernel_rfl) rfl rfl ⟨((HB.out.cell (World.block_lt_of_cell? w _ hw274_0)).trans hw274_0), ((HB.out.cell (World.block_lt_of_cell? w _ hw274_1)).trans hw274_1), ((HB.out.cell (World.block_lt_of_cell? w _ hw274_2)).trans hw274_2), ((HB.out.cell (World.block_lt_of_cell? w _ hw274_3)).trans hw274_3), ((HB.out.cell (World.block_lt_of_cell? w _ hw274_4)).trans hw274_4), ((HB.out.cell (World.block_lt_of_cell? w _ hw274_5)).trans hw274_5), ((HB.out.cell (World.block_lt_of_cell? w _ hw276_0)).trans hw276_0), ((HB.out.cell (World.block_lt_of_cell? w _ hw276_1)).trans hw276_1), ((HB.out.cell (World.block_lt_of_cell? w _ hw276_2)).trans hw276_2), ((HB.out.cell (World.block_lt_of_cell? w _ hw276_3)).trans hw276_3), ((HB.out.cell (World.block_lt_of_cell? w _ hw276_4)).trans hw276_4), ((HB.out.cell (World.block_lt_of_cell? w _ hw276_5)).trans hw276_5)⟩ (fun hHeld => ?_); refine with_tabW flywheellaw26_ProbeFew.tab12 flywheellaw26_ProbeFew.bits12 (fun HT_ HW_ => ?_)
           generalize wc.drew = w32 at HI218 HB hx274_0 hx274_1 hx274_2 hx274_3 hx274_4 hx274_5 hx276_0 hx276_1 hx276_2 hx276_3 hx276_4 hx276_5 hHeld ⊢
           refine pure_ (i := 0) (N := some 50) (v := ?_) (a' := ?_) #[true, false, false, false, false, false, false, false, false, false, false, false, false, false, false, false] rfl rfl (any_of HT_.out (by kernel_rfl)) (fun _ _ _ h => h) (Or.inl ⟨by rfl, ?_⟩) ?_ ?_
           rotate_left
           ·intro w'
            go_simp
            with_reducible rfl
           rotate_left
           ·simp only [Act.put, List.setIfInBounds_toArray, List.set_cons_zero, List.set_cons_succ, i64_w, i32_w]
            rfl
           refine pure_ (i := 1) (N := some 51) (v := ?_) (a' := ?_) #[true, true, false, false, false, false, false, false, false, false, false, false, false, false, false, false] rfl rfl (any_of HT_.out (by kernel_rfl)) (fun _ _ _ h => h) (Or.inl ⟨by rfl, ?_⟩) ?_ ?_
           rotate_left
           ·intro w'
            go_simp
            with_reducible rfl
           rotate_left
           ·simp only [Act.put, List.setIfInBounds_toArray, List.set_cons_zero, List.set_cons_succ, i64_w, i32_w]
            rfl
           refine pure_ (i := 2) (N := some 52) (v := ?_) (a' := ?_) #[true, true, true, false, false, false, false, false, false, false, false, false, false, false, false, false] rfl rfl (any_of HT_.out (by kernel_rfl)) (fun _ _ _ h => h) (Or.inl ⟨by rfl, ?_⟩) ?_ ?_
           rotate_left
           ·intro w'
            go_simp
            with_reducible rfl
           rotate_left
           ·simp only [Act.put, List.setIfInBounds_toArray, List.set_cons_zero, List.set_cons_succ, i64_w, i32_w]
            rfl
           refine pure_ (i := 3) (N := some 53) (v := ?_) (a' := ?_) #[true, true, true, true, false, false, false, false, false, false, false, false, false, false, false, false] rfl rfl (any_of HT_.out (by kernel_rfl)) (fun _ _ _ h => h) (Or.inl ⟨by rfl, ?_⟩) ?_ ?_
           rotate_left
           ·intro w'
            go_simp
            with_reducible rfl
           rotate_left
           ·simp only [Act.put, List.setIfInBounds_toArray, List.set_cons_zero, List.set_cons_succ, i64_w, i32_w]
            rfl
           refine pure_ (i := 4) (N := some 54) (v := ?_) (a' := ?_) #[true, true, true, true, true, false, false, false, false, false, false, false, false, false, false, false] rfl rfl (any_of HT_.out (by kernel_rfl)) (fun _ _ _ h => h) (Or.inl ⟨by rfl, ?_⟩) ?_ ?_
           rotate_left
           ·intro w'
            go_simp
            with_reducible rfl
           rotate_left
           ·simp only [Act.put, List.setIfInBounds_toArray, List.set_cons_zero, List.set_cons_succ, i64_w, i32_w]
            rfl
           refine pure_ (i := 5) (N := some 55) (v := ?_) (a' := ?_) #[true, true, true, true, true, true, false, false, false, false, false, false, false, false, false, false] rfl rfl (any_of HT_.out (by kernel_rfl)) (fun _ _ _ h => h) (Or.inl ⟨by rfl, ?_⟩) ?_ ?_
           rotate_left
           ·intro w'
            go_simp
            with_reducible rfl
           rotate_left
           ·simp only [Act.put, List.setIfInBounds_toArray, List.set_cons_zero, List.set_cons_succ, i64_w, i32_w]
            rfl
           refine pure_ (i := 8) (N := some 58) (v := ?_) (a' := ?_) #[true, true, true, true, true, true, false, false, true, false, false, false, false, false, false, false] rfl rfl (any_of HT_.out (by kernel_rfl)) (fun _ _ _ h => h) (Or.inl ⟨by rfl, ?_⟩) ?_ ?_
           rotate_left
           ·intro w'
            go_simp
            with_reducible rfl
           rotate_left
           ·simp only [Act.put, List.setIfInBounds_toArray, List.set_cons_zero, List.set_cons_succ, i64_w, i32_w]
            rfl
           refine pure_ (i := 9) (N := some 59) (v := ?_) (a' := ?_) #[true, true, true, true, true, true, false, false, true, true, false, false, false, false, false, false] rfl rfl (any_of HT_.out (by kernel_rfl)) (fun _ _ _ h => h) (Or.inl ⟨by rfl, ?_⟩) ?_ ?_
           rotate_left
           ·intro w'
            go_simp
            with_reducible rfl
           rotate_left
           ·simp only [Act.put, List.setIfInBounds_toArray, List.set_cons_zero, List.set_cons_succ, i64_w, i32_w]
            rfl
           refine pure_ (i := 10) (N := some 60) (v := ?_) (a' := ?_) #[true, true, true, true, true, true, false, false, true, true, true, false, false, false, false, false] rfl rfl (any_of HT_.out (by kernel_rfl)) (fun _ _ _ h => h) (Or.inl ⟨by rfl, ?_⟩) ?_ ?_
           rotate_left
           ·intro w'
            go_simp
            with_reducible rfl
           rotate_left
           ·simp only [Act.put, List.setIfInBounds_toArray, List.set_cons_zero, List.set_cons_succ, i64_w, i32_w]
            rfl
           refine pure_ (i := 11) (N := some 61) (v := ?_) (a' := ?_) #[true, true, true, true, true, true, false, false, true, true, true, true, false, false, false, false] rfl rfl (any_of HT_.out (by kernel_rfl)) (fun _ _ _ h => h) (Or.inl ⟨by rfl, ?_⟩) ?_ ?_
           rotate_left
           ·intro w'
            go_simp
            with_reducible rfl
           rotate_left
           ·simp only [Act.put, List.setIfInBounds_toArray, List.set_cons_zero, List.set_cons_succ, i64_w, i32_w]
            rfl
           refine take_ (i := 6) (N := some 56) (v := ?_) (a' := ?_) #[true, true, true, true, true, true, true, false, true, true, true, true, false, false, false, false] rfl rfl (take_ofW HT_.out HW_.out (by kernel_rfl)) (fun _ _ _ h => h) (Or.inl ⟨by rfl, ?_⟩) hHeld ?_ ?_
           rotate_left
           ·rintro w' ⟨s0, s1, s2, s3, s4, s5, s6, s7, s8, s9, s10, s11⟩
            go_simp
            with_reducible rfl
           rotate_left
           ·simp only [Act.put, List.setIfInBounds_toArray, List.set_cons_zero, List.set_cons_succ, i64_w, i32_w]
            rfl
           refine take_ (i := 12) (N := some 62) (v := ?_) (a' := ?_) #[true, true, true, true, true, true, true, false, true, true, true, true, true, false, false, false] rfl rfl (take_ofW HT_.out HW_.out (by kernel_rfl)) (fun _ _ _ h => h) (Or.inl ⟨by rfl, ?_⟩) hHeld ?_ ?_
           rotate_left
           ·rintro w' ⟨s0, s1, s2, s3, s4, s5, s6, s7, s8, s9, s10, s11⟩
            go_simp
            with_reducible rfl
           rotate_left
           ·simp only [Act.put, List.setIfInBounds_toArray, List.set_cons_zero, List.set_cons_succ, i64_w, i32_w]
            rfl
           refine pure_ (i := 13) (N := some 63) (v := ?_) (a' := ?_) #[true, true, true, true, true, true, true, false, true, true, true, true, true, true, false, false] rfl rfl (any_of HT_.out (by kernel_rfl)) (fun _ _ _ h => h) (Or.inl ⟨by rfl, ?_⟩) ?_ ?_
           rotate_left
           ·intro w'
            go_simp
            with_reducible rfl
           rotate_left
           ·simp only [Act.put, List.setIfInBounds_toArray, List.set_cons_zero, List.set_cons_succ, i64_w, i32_w]
            rfl
           refine one_ (i := 7) (N := some 57) #[true, true, true, true, true, true, true, true, true, true, true, true, true, true, false, false] rfl rfl (one_of HT_.out (by kernel_rfl)) (by decide) (fun K hK => ?_)
           refine goes_ Try.func22 (by kernel_rfl) rfl #[.int .i64 ((rd_T42 l1 x13_1).f4), .int .i64 1099511627776] (by rfl) rfl rfl (by (try simp only [List.map_toArray, List.map_cons, List.map_nil]); first | done | rfl | (simp only [List.length_drop, List.length_take]; rfl)) ?_
           with_reducible refine (flywheelkeep_Mod64.calls ((rd_T42 l1 x13_1).f4) 1099511627776 t275 _ A18.out).mono ?_
           rintro e w' ⟨rfl, ⟨nd, rfl⟩⟩
           refine ⟨_, rfl, ?_⟩
           refine hK.out _ _ ⟨((HB.out.cell (World.block_lt_of_cell? w _ hw274_0)).trans hw274_0), ((HB.out.cell (World.block_lt_of_cell? w _ hw274_1)).trans hw274_1), ((HB.out.cell (World.block_lt_of_cell? w _ hw274_2)).trans hw274_2), ((HB.out.cell (World.block_lt_of_cell? w _ hw274_3)).trans hw274_3), ((HB.out.cell (World.block_lt_of_cell? w _ hw274_4)).trans hw274_4), ((HB.out.cell (World.block_lt_of_cell? w _ hw274_5)).trans hw274_5), ((HB.out.cell (World.block_lt_of_cell? w _ hw276_0)).trans hw276_0), ((HB.out.cell (World.block_lt_of_cell? w _ hw276_1)).trans hw276_1), ((HB.out.cell (World.block_lt_of_cell? w _ hw276_2)).trans hw276_2), ((HB.out.cell (World.block_lt_of_cell? w _ hw276_3)).trans hw276_3), ((HB.out.cell (World.block_lt_of_cell? w _ hw276_4)).trans hw276_4), ((HB.out.cell (World.block_lt_of_cell? w _ hw276_5)).trans hw276_5)⟩ (fun hHeld => ?_)
           clear hK K
           refine norm_ (a' := ?_) ?_ ?_
           rotate_left
           ·show Act.put _ (some 57) _ = _
            simp only [Act.put, List.setIfInBounds_toArray, List.set_cons_zero, List.set_cons_succ, i64_w, i32_w]
            rfl
           refine one_ (i := 14) (N := some 64) #[true, true, true, true, true, true, true, true, true, true, true, true, true, true, true, false] rfl rfl (one_of HT_.out (by kernel_rfl)) (by decide) (fun K hK => ?_)
           refine goes_ Try.func25 (by kernel_rfl) rfl #[.pointer (some ⟨g218, 0, none⟩), .int .i64 1, .int .i64 (wrap64 (1 + t273)), .int .i64 t275, .int .i64 (Int.tmod ((rd_T42 l1 x13_1).f5) 1099511627776)] (by rfl) rfl rfl (by (try simp only [List.map_toArray, List.map_cons, List.map_nil]); first | done | rfl | (simp only [List.length_drop, List.length_take]; rfl)) ?_
           with_reducible refine (probe_Probe_Got.calls kj11 g218 x219000_1 x219001_1 x219002_1 x219003_1 x219004_1 x219005_1 x219006_1 x219007_1 x219008_1 x219009_1 x219010_1 x219011_1 x219012_1 x219013_1 x219014_1 1 (wrap64 (1 + t273)) t275 (Int.tmod ((rd_T42 l1 x13_1).f5) 1099511627776) t277 t278 t279 t280 t281 t282 t283 t284 t285 t286 t287 t288 t289 t290 t291 t292 w _ ?side1 ?side2 A19.out).mono ?_
           (case side1 => repeat (first | (with_reducible first | exact HI218.out | apply IsS75.alloc | apply IsS75.drewN | apply IsS75.drew | apply IsS75.set_0 | apply IsS75.set_1 | apply IsS75.set_2 | apply IsS75.set_3 | apply IsS75.set_4 | apply IsS75.set_5 | apply IsS75.set_6 | apply IsS75.set_7 | apply IsS75.set_8 | apply IsS75.set_9 | apply IsS75.set_10 | apply IsS75.set_11 | apply IsS75.set_12 | apply IsS75.set_13 | apply IsS75.set_14) | exact HI218.out))
           (case side2 => repeat (first | (with_reducible first | exact HB.out | apply below_alloc | apply pw_below_drewN | apply below_drew1 | refine below_set ?_ (IsS75.ge HI218.out)) | exact HB.out))
           rintro e w33 ⟨rfl, hi, hb, hk⟩
           refine ⟨_, rfl, ?_⟩
           have n0_ := Aside0.mk (hb)
           have n1_ := Aside0.mk (hi)
           clear HB
           clear HI218
           have HB := n0_
           have HI218 := n1_
           clear n0_ n1_
           (try clear hb)
           (try clear hb2)
           (try clear hk)
           (try clear hi)
           refine hK.out _ _ ⟨((HB.out.cell (World.block_lt_of_cell? w _ hw274_0)).trans hw274_0), ((HB.out.cell (World.block_lt_of_cell? w _ hw274_1)).trans hw274_1), ((HB.out.cell (World.block_lt_of_cell? w _ hw274_2)).trans hw274_2), ((HB.out.cell (World.block_lt_of_cell? w _ hw274_3)).trans hw274_3), ((HB.out.cell (World.block_lt_of_cell? w _ hw274_4)).trans hw274_4), ((HB.out.cell (World.block_lt_of_cell? w _ hw274_5)).trans hw274_5), ((HB.out.cell (World.block_lt_of_cell? w _ hw276_0)).trans hw276_0), ((HB.out.cell (World.block_lt_of_cell? w _ hw276_1)).trans hw276_1), ((HB.out.cell (World.block_lt_of_cell? w _ hw276_2)).trans hw276_2), ((HB.out.cell (World.block_lt_of_cell? w _ hw276_3)).trans hw276_3), ((HB.out.cell (World.block_lt_of_cell? w _ hw276_4)).trans hw276_4), ((HB.out.cell (World.block_lt_of_cell? w _ hw276_5)).trans hw276_5)⟩ (fun hHeld => ?_)
           clear hK K
           refine norm_ (a' := ?_) ?_ ?_
           rotate_left
           ·show Act.put _ (some 64) _ = _
            simp only [Act.put, List.setIfInBounds_toArray, List.set_cons_zero, List.set_cons_succ, i64_w, i32_w]
            rfl
           refine pure_ (i := 15) (N := some 15) (v := ?_) (a' := ?_) #[true, true, true, true, true, true, true, true, true, true, true, true, true, true, true, true] rfl rfl (any_of HT_.out (by kernel_rfl)) (fun _ _ _ h => h) (Or.inl ⟨by rfl, ?_⟩) ?_ ?_
           rotate_left
           ·intro w'
            go_simp
            with_reducible rfl
           rotate_left
           ·simp only [Act.put, List.setIfInBounds_toArray, List.set_cons_zero, List.set_cons_succ, i64_w, i32_w]
            rfl
           refine done_ (done_of HT_.out (by kernel_rfl)) ?_
           try go_wp2
           go_roundg kj11
           case measure => have := HK1.out; have := HJ11.out; omega
           case rel => exact ⟨(wrap64 (x12_1 + (wrap64 (1 + t273)))), (wrap64 (x13_1 + 1)), (t278), (t279), (t280), (t281), (t282), (t283), (t284), (t285), (t286), (t287), (t288), (t289), (t290), (t291), (t292), (by first | rfl | (simp; done) | (simp [*]; done)), (by first | rfl | (simp; done) | (simp [*]; done)), H', ⟨by have := HK1.out; have := HJ11.out; omega⟩, ⟨by repeat (first | (with_reducible first | exact HI218.out | apply IsS75.alloc | apply IsS75.drewN | apply IsS75.drew | apply IsS75.set_0 | apply IsS75.set_1 | apply IsS75.set_2 | apply IsS75.set_3 | apply IsS75.set_4 | apply IsS75.set_5 | apply IsS75.set_6 | apply IsS75.set_7 | apply IsS75.set_8 | apply IsS75.set_9 | apply IsS75.set_10 | apply IsS75.set_11 | apply IsS75.set_12 | apply IsS75.set_13 | apply IsS75.set_14) | exact HI218.out)⟩, ⟨by repeat (first | (with_reducible first | exact HB.out | apply below_alloc | apply pw_below_drewN | apply below_drew1 | refine below_set ?_ (IsS75.ge HI218.out)) | exact HB.out)⟩⟩
        ·rw [if_neg c16] at H
         exact absurd H (by simp)
       ·rw [if_neg c15] at H
        exact absurd H (by simp)
      ·replace c14 := Bool.eq_false_iff.mpr c14
       subst c14
       have H1 : (if a2 = 1 then ((flywheellaw26_wakes.f).bind fun t254 => (some t254)) else ((probe_Probe_Got.f kj11 x219000_1 x219001_1 x219002_1 x219003_1 x219004_1 x219005_1 x219006_1 x219007_1 x219008_1 x219009_1 x219010_1 x219011_1 x219012_1 x219013_1 x219014_1 a2 1200 5 5).bind fun bt255 => (if bt255.1 = 0 then ((flywheellaw26_wakes.f).bind fun t271 => (some t271)) else (some false)))) = some r := by rw [if_neg (show ¬ (false = true) by decide)] at H; exact H
       clear H
       have H := H1
       clear H1
       by_cases c34 : a2 = 1
       ·rw [if_pos c34] at H
        have c34b0 : (a2 == 1) = true := beq_iff_eq.mpr c34
        have c34b1 : (a2 != 1) = false := bne_eq_false_iff_eq.mpr c34
        clear c34
        replace H := Option.bind_eq_some_iff.mp H
        obtain ⟨t254, A350, H⟩ := H
        replace H : (some t254) = some r := H
        have A35 := Aside0.mk A350
        clear A350
        obtain rfl := Option.some.inj H
        go_wp2_with (first | (go_at_call 26; (with_reducible refine (flywheellaw26_wakes.calls  t254 _ A35.out).mono ?_); rintro e w36 ⟨rfl, hb⟩; have n0_ := Aside0.mk (IsS75.below (by repeat (first | (with_reducible first | exact HI218.out | apply IsS75.alloc | apply IsS75.drewN | apply IsS75.drew | apply IsS75.set_0 | apply IsS75.set_1 | apply IsS75.set_2 | apply IsS75.set_3 | apply IsS75.set_4 | apply IsS75.set_5 | apply IsS75.set_6 | apply IsS75.set_7 | apply IsS75.set_8 | apply IsS75.set_9 | apply IsS75.set_10 | apply IsS75.set_11 | apply IsS75.set_12 | apply IsS75.set_13 | apply IsS75.set_14) | exact HI218.out)) hb); have n1_ := Aside0.mk (below_step (by repeat (first | (with_reducible first | exact HB.out | apply below_alloc | apply pw_below_drewN | apply below_drew1 | refine below_set ?_ (IsS75.ge HI218.out)) | exact HB.out)) hb); clear HI218; clear HB; have HI218 := n0_; have HB := n1_; clear n0_ n1_; (try clear hb); (try clear hb2); (try clear hk); (try clear hi)))
        go_ret
        exact ⟨by first | rfl | (simp [errW_none, errW_some] <;> rfl) | (simp [*, errW_none, errW_some] <;> rfl), by repeat (first | (with_reducible first | exact HB.out | apply below_alloc | apply pw_below_drewN | apply below_drew1 | refine below_set ?_ (IsS75.ge HI218.out)) | exact HB.out)⟩
       ·rw [if_neg c34] at H
        have c34b0 : (a2 == 1) = false := beq_eq_false_iff_ne.mpr c34
        have c34b1 : (a2 != 1) = true := bne_iff_ne.mpr c34
        replace H := Option.bind_eq_some_iff.mp H
        obtain ⟨⟨t255, t256, t257, t258, t259, t260, t261, t262, t263, t264, t265, t266, t267, t268, t269, t270⟩, A370, H⟩ := H
        replace H : (if t255 = 0 then ((flywheellaw26_wakes.f).bind fun t271 => (some t271)) else (some false)) = some r := H
        have A37 := Aside0.mk A370
        clear A370
        by_cases c38 : t255 = 0
        ·rw [if_pos c38] at H
         have c38b0 : (t255 == 0) = true := beq_iff_eq.mpr c38
         have c38b1 : (t255 != 0) = false := bne_eq_false_iff_eq.mpr c38
         clear c38
         replace H := Option.bind_eq_some_iff.mp H
         obtain ⟨t271, A390, H⟩ := H
         replace H : (some t271) = some r := H
         have A39 := Aside0.mk A390
         clear A390
         obtain rfl := Option.some.inj H
         go_wp2_with (first | (go_at_call 25; (with_reducible refine (probe_Probe_Got.calls kj11 g218 x219000_1 x219001_1 x219002_1 x219003_1 x219004_1 x219005_1 x219006_1 x219007_1 x219008_1 x219009_1 x219010_1 x219011_1 x219012_1 x219013_1 x219014_1 a2 1200 5 5 t255 t256 t257 t258 t259 t260 t261 t262 t263 t264 t265 t266 t267 t268 t269 t270 w _ ?side1 ?side2 A37.out).mono ?_); (case side1 => repeat (first | (with_reducible first | exact HI218.out | apply IsS75.alloc | apply IsS75.drewN | apply IsS75.drew | apply IsS75.set_0 | apply IsS75.set_1 | apply IsS75.set_2 | apply IsS75.set_3 | apply IsS75.set_4 | apply IsS75.set_5 | apply IsS75.set_6 | apply IsS75.set_7 | apply IsS75.set_8 | apply IsS75.set_9 | apply IsS75.set_10 | apply IsS75.set_11 | apply IsS75.set_12 | apply IsS75.set_13 | apply IsS75.set_14) | exact HI218.out)); (case side2 => repeat (first | (with_reducible first | exact HB.out | apply below_alloc | apply pw_below_drewN | apply below_drew1 | refine below_set ?_ (IsS75.ge HI218.out)) | exact HB.out)); rintro e w40 ⟨rfl, hi, hb, hk⟩; have n0_ := Aside0.mk (hb); have n1_ := Aside0.mk (hi); clear HB; clear HI218; have HB := n0_; have HI218 := n1_; clear n0_ n1_; (try clear hb); (try clear hb2); (try clear hk); (try clear hi)) | (go_at_call 26; (with_reducible refine (flywheellaw26_wakes.calls  t271 _ A39.out).mono ?_); rintro e w41 ⟨rfl, hb⟩; have n0_ := Aside0.mk (IsS75.below (by repeat (first | (with_reducible first | exact HI218.out | apply IsS75.alloc | apply IsS75.drewN | apply IsS75.drew | apply IsS75.set_0 | apply IsS75.set_1 | apply IsS75.set_2 | apply IsS75.set_3 | apply IsS75.set_4 | apply IsS75.set_5 | apply IsS75.set_6 | apply IsS75.set_7 | apply IsS75.set_8 | apply IsS75.set_9 | apply IsS75.set_10 | apply IsS75.set_11 | apply IsS75.set_12 | apply IsS75.set_13 | apply IsS75.set_14) | exact HI218.out)) hb); have n1_ := Aside0.mk (below_step (by repeat (first | (with_reducible first | exact HB.out | apply below_alloc | apply pw_below_drewN | apply below_drew1 | refine below_set ?_ (IsS75.ge HI218.out)) | exact HB.out)) hb); clear HI218; clear HB; have HI218 := n0_; have HB := n1_; clear n0_ n1_; (try clear hb); (try clear hb2); (try clear hk); (try clear hi)))
         go_ret
         exact ⟨by first | rfl | (simp [errW_none, errW_some] <;> rfl) | (simp [*, errW_none, errW_some] <;> rfl), by repeat (first | (with_reducible first | exact HB.out | apply below_alloc | apply pw_below_drewN | apply below_drew1 | refine below_set ?_ (IsS75.ge HI218.out)) | exact HB.out)⟩
        ·rw [if_neg c38] at H
         have c38b0 : (t255 == 0) = false := beq_eq_false_iff_ne.mpr c38
         have c38b1 : (t255 != 0) = true := bne_iff_ne.mpr c38
         obtain rfl := Option.some.inj H
         go_wp2_with (first | (go_at_call 25; (with_reducible refine (probe_Probe_Got.calls kj11 g218 x219000_1 x219001_1 x219002_1 x219003_1 x219004_1 x219005_1 x219006_1 x219007_1 x219008_1 x219009_1 x219010_1 x219011_1 x219012_1 x219013_1 x219014_1 a2 1200 5 5 t255 t256 t257 t258 t259 t260 t261 t262 t263 t264 t265 t266 t267 t268 t269 t270 w _ ?side1 ?side2 A37.out).mono ?_); (case side1 => repeat (first | (with_reducible first | exact HI218.out | apply IsS75.alloc | apply IsS75.drewN | apply IsS75.drew | apply IsS75.set_0 | apply IsS75.set_1 | apply IsS75.set_2 | apply IsS75.set_3 | apply IsS75.set_4 | apply IsS75.set_5 | apply IsS75.set_6 | apply IsS75.set_7 | apply IsS75.set_8 | apply IsS75.set_9 | apply IsS75.set_10 | apply IsS75.set_11 | apply IsS75.set_12 | apply IsS75.set_13 | apply IsS75.set_14) | exact HI218.out)); (case side2 => repeat (first | (with_reducible first | exact HB.out | apply below_alloc | apply pw_below_drewN | apply below_drew1 | refine below_set ?_ (IsS75.ge HI218.out)) | exact HB.out)); rintro e w42 ⟨rfl, hi, hb, hk⟩; have n0_ := Aside0.mk (hb); have n1_ := Aside0.mk (hi); clear HB; clear HI218; have HB := n0_; have HI218 := n1_; clear n0_ n1_; (try clear hb); (try clear hb2); (try clear hk); (try clear hi)))
         go_ret
         exact ⟨by first | rfl | (simp [errW_none, errW_some] <;> rfl) | (simp [*, errW_none, errW_some] <;> rfl), by repeat (first | (with_reducible first | exact HB.out | apply below_alloc | apply pw_below_drewN | apply below_drew1 | refine below_set ?_ (IsS75.ge HI218.out)) | exact HB.out)⟩
 ·rw [if_neg c7] at H
  have c7b0 : (t220 == 1) = false := beq_eq_false_iff_ne.mpr c7
  have c7b1 : (t220 != 1) = true := bne_iff_ne.mpr c7
  obtain rfl := Option.some.inj H
  go_enter Try.func5, Try.ntmps5
  go_wp2_with (first | ((with_reducible refine gate_callee (f := 21) rfl ?_); refine goesL_ (some 16) rfl rfl Try.func21 (by kernel_rfl) rfl #[] rfl (by (try simp only [List.map_toArray, List.map_cons, List.map_nil]); first | done | rfl | (simp only [List.length_drop, List.length_take]; rfl)) ?_; (with_reducible refine (probe_New.calls  t203 t204 t205 t206 t207 t208 t209 t210 t211 t212 t213 t214 t215 t216 t217 _ _ (Below.refl _ _) A4.out).mono ?_); rintro e w43 ⟨g218, rfl, hi, hb, hb2⟩; refine ⟨_, rfl, ?_⟩; have n0_ := Aside0.mk (below_step (by repeat (first | (with_reducible first | exact HB.out | apply below_alloc | apply pw_below_drewN | apply below_drew1) | exact HB.out)) hb2); have n1_ := Aside0.mk ((IsS75.rebase hi (below_size (by repeat (first | (with_reducible first | exact HB.out | apply below_alloc | apply pw_below_drewN | apply below_drew1) | exact HB.out))))); clear HB; have HB := n0_; have HI218 := n1_; clear n0_ n1_; (try clear hb); (try clear hb2); (try clear hk); (try clear hi)) | ((with_reducible refine gate_callee (f := 22) rfl ?_); refine goesL_ (some 18) rfl rfl Try.func22 (by kernel_rfl) rfl #[.int .i64 a0, .int .i64 17179869184] rfl (by (try simp only [List.map_toArray, List.map_cons, List.map_nil]); first | done | rfl | (simp only [List.length_drop, List.length_take]; rfl)) ?_; (with_reducible refine (flywheelkeep_Mod64.calls a0 17179869184 t219 _ A5.out).mono ?_); rintro e w' ⟨rfl, ⟨nd, rfl⟩⟩; refine ⟨_, rfl, ?_⟩) | ((with_reducible refine gate_callee (f := 23) rfl ?_); refine goesL_ (some 22) rfl rfl Try.func23 (by kernel_rfl) rfl #[.pointer (some ⟨g218, 0, none⟩), .int .i64 (wrap64 (1 + t219))] rfl (by (try simp only [List.map_toArray, List.map_cons, List.map_nil]); first | done | rfl | (simp only [List.length_drop, List.length_take]; rfl)) ?_; (with_reducible refine (probe_Probe_Start.calls g218 t203 t204 t205 t206 t207 t208 t209 t210 t211 t212 t213 t214 t215 t216 t217 (wrap64 (1 + t219)) t220 t221 t222 t223 t224 t225 t226 t227 t228 t229 t230 t231 t232 t233 t234 t235 w _ ?side1 ?side2 A6.out).mono ?_); (case side1 => repeat (first | (with_reducible first | exact HI218.out | apply IsS75.alloc | apply IsS75.drewN | apply IsS75.drew | apply IsS75.set_0 | apply IsS75.set_1 | apply IsS75.set_2 | apply IsS75.set_3 | apply IsS75.set_4 | apply IsS75.set_5 | apply IsS75.set_6 | apply IsS75.set_7 | apply IsS75.set_8 | apply IsS75.set_9 | apply IsS75.set_10 | apply IsS75.set_11 | apply IsS75.set_12 | apply IsS75.set_13 | apply IsS75.set_14) | exact HI218.out)); (case side2 => repeat (first | (with_reducible first | exact HB.out | apply below_alloc | apply pw_below_drewN | apply below_drew1 | refine below_set ?_ (IsS75.ge HI218.out)) | exact HB.out)); rintro e w44 ⟨rfl, hi, hb, hk⟩; refine ⟨_, rfl, ?_⟩; have n0_ := Aside0.mk (hb); have n1_ := Aside0.mk (hi); clear HB; clear HI218; have HB := n0_; have HI218 := n1_; clear n0_ n1_; (try clear hb); (try clear hb2); (try clear hk); (try clear hi)))
  go_ret
  exact ⟨by first | rfl | (simp [errW_none, errW_some] <;> rfl) | (simp [*, errW_none, errW_some] <;> rfl), by repeat (first | (with_reducible first | exact HB.out | apply below_alloc | apply pw_below_drewN | apply below_drew1 | refine below_set ?_ (IsS75.ge HI218.out)) | exact HB.out)⟩
def flywheellaw26_ProbeFew.Pure : Prop := ∀ (a0 : Int) (l1 : List (S42)) (a2 : Int), (Lit.int .i64 a0).wf = true → l1.length ≤ maxLen → l1.length * 48 ≤ 140737488351232 → (∀ x ∈ l1, (Lit.int .i64 x.f0).wf = true ∧ (Lit.int .i64 x.f1).wf = true ∧ (Lit.int .i64 x.f2).wf = true ∧ (Lit.int .i64 x.f3).wf = true ∧ (Lit.int .i64 x.f4).wf = true ∧ (Lit.int .i64 x.f5).wf = true) → (Lit.int .i64 a2).wf = true → ∃ k, flywheellaw26_ProbeFew.f k a0 l1 a2 = some true
theorem flywheellaw26_ProbeFew.walk (P : flywheellaw26_ProbeFew.Pure) (a0 : Int) (A1 : Option Addr) (c1 : Nat) (l1 : List (S42)) (a2 : Int) (w : World) (w0 : (Lit.int .i64 a0).wf = true) (hm1 : l1.length ≤ maxLen) (y1 : l1.length * 48 ≤ 140737488351232) (hw1 : (∀ x ∈ l1, (Lit.int .i64 x.f0).wf = true ∧ (Lit.int .i64 x.f1).wf = true ∧ (Lit.int .i64 x.f2).wf = true ∧ (Lit.int .i64 x.f3).wf = true ∧ (Lit.int .i64 x.f4).wf = true ∧ (Lit.int .i64 x.f5).wf = true)) (w2 : (Lit.int .i64 a2).wf = true) (hr1 : Kd.C k42 w A1 l1.length l1) (hc1 : l1.length ≤ c1) :
  Calls Try.prog 5 #[.int .i64 a0, .slice A1 l1.length c1, .int .i64 a2] w fun e w' => e = .returned (.bool true) ∧ Below w.heap.size w w' := by
 obtain ⟨k, h⟩ := P a0 l1 a2 w0 hm1 y1 hw1 w2
 refine (flywheellaw26_ProbeFew.calls k a0 A1 c1 l1 a2 true w hr1 hc1 h).mono ?_
 rintro e w' ⟨rfl, hd⟩
 exact ⟨rfl, hd⟩
end Go.Proofs.Ytlgfnclgkhfhpaa.P
end

section
namespace Go.Proofs.Ytlgfnclgkhfhpaa.P
open Go.RowKit Go.Proofs.YtlgfnclgkhfhpaaW.PrintWords Go.Proofs.YtlgfnclgkhfhpaaW.PrintLast Go.Proofs.YtlgfnclgkhfhpaaW.PrintMore
attribute [local go_sem] max2_int min2_int max_two min_two max_three min_three max_four min_four   -- for this text's walks alone
set_option linter.unusedVariables false
set_option linter.unusedSimpArgs false
end Go.Proofs.Ytlgfnclgkhfhpaa.P
end

section
namespace Go.Proofs.Ytlgfnclgkhfhpaa.P
open Go.RowKit Go.Proofs.YtlgfnclgkhfhpaaW.PrintWords Go.Proofs.YtlgfnclgkhfhpaaW.PrintLast Go.Proofs.YtlgfnclgkhfhpaaW.PrintMore
attribute [local go_sem] max2_int min2_int max_two min_two max_three min_three max_four min_four   -- for this text's walks alone
set_option linter.unusedVariables false
set_option linter.unusedSimpArgs false
end Go.Proofs.Ytlgfnclgkhfhpaa.P
end

-- PUT TOGETHER by a program of this session: of the claim's texts, what is used
import Derived.Test.YtaelmmbodigheaaKAimdPlays2
import Derived.Test.YtaelmmbodigheaaKAimdPlays8
import Derived.Test.YtaelmmbodigheaaKAimdPlays9
section
namespace Go.Proofs.Ytaelmmbodigheaa.P
open Go.RowKit Go.Proofs.YtaelmmbodigheaaW.PrintWords Go.Proofs.YtaelmmbodigheaaW.PrintLast Go.Proofs.YtaelmmbodigheaaW.PrintMore
attribute [local go_sem] max2_int min2_int max_two min_two max_three min_three max_four min_four   -- for this text's walks alone
set_option linter.unusedVariables false
set_option linter.unusedSimpArgs false
def aimd_Aimd_Update.j0 : Nat → Int → Int → Int → Int → Int → Int → Bool → Int → Int → Bool → Int → Int → Int → Int → Option (Int × Int × Int × Int × Int × Bool × Int × Int × Bool × Int)
 | 0, _, _, _, _, _, _, _, _, _, _, _, _, _, _ => none
 | k + 1, x1, x4, x1000, x1001, x1002, x1003, x1004, x1005, x1006, x1007, x1008, x138000, x138001, x138002 => if x1 = 1 then ((mkmap.f).bind fun t139 => ((aimd_Aimd_cut.f x1000 x1001 x1002 2 x1004 x1005 x1006 true x4 x138000 x138001 x138002).bind fun bt140 => ((sat_Clamp.f bt140.1 bt140.2.1 bt140.2.2.1).bind fun t149 => (some (t149, t149, bt140.2.1, bt140.2.2.1, bt140.2.2.2.1, bt140.2.2.2.2.1, bt140.2.2.2.2.2.1, bt140.2.2.2.2.2.2.1, bt140.2.2.2.2.2.2.2.1, bt140.2.2.2.2.2.2.2.2))))) else (if x1 = 2 then ((mkmap.f).bind fun t150 => ((aimd_Aimd_hold.f x1000 x1001 x1002 0 x1004 x1005 x1006 true x4 x138000 x138001 x138002).bind fun bt151 => ((sat_Clamp.f bt151.1 bt151.2.1 bt151.2.2.1).bind fun t160 => (some (t160, t160, bt151.2.1, bt151.2.2.1, bt151.2.2.2.1, bt151.2.2.2.2.1, bt151.2.2.2.2.2.1, bt151.2.2.2.2.2.2.1, bt151.2.2.2.2.2.2.2.1, bt151.2.2.2.2.2.2.2.2))))) else (if x1003 = 2 then ((mkmap.f).bind fun t161 => ((aimd_Aimd_hold.f x1000 x1001 x1002 0 x1004 x1005 x1006 true x4 x138000 x138001 x138002).bind fun bt162 => ((sat_Clamp.f bt162.1 bt162.2.1 bt162.2.2.1).bind fun t171 => (some (t171, t171, bt162.2.1, bt162.2.2.1, bt162.2.2.2.1, bt162.2.2.2.2.1, bt162.2.2.2.2.2.1, bt162.2.2.2.2.2.2.1, bt162.2.2.2.2.2.2.2.1, bt162.2.2.2.2.2.2.2.2))))) else ((mkmap.f).bind fun t172 => ((aimd_Aimd_lift.f k x1000 x1001 x1002 1 x1004 x1005 x1006 true x4 x138000 x138001 x138002).bind fun bt173 => ((sat_Clamp.f bt173.1 bt173.2.1 bt173.2.2.1).bind fun t182 => (some (t182, t182, bt173.2.1, bt173.2.2.1, bt173.2.2.2.1, bt173.2.2.2.2.1, bt173.2.2.2.2.2.1, bt173.2.2.2.2.2.2.1, bt173.2.2.2.2.2.2.2.1, bt173.2.2.2.2.2.2.2.2)))))))
def aimd_Aimd_Update.f (k : Nat) (s0_0 : Int) (s0_1 : Int) (s0_2 : Int) (s0_3 : Int) (s0_4 : Bool) (s0_5 : Int) (s0_6 : Int) (s0_7 : Bool) (s0_8 : Int) (a1 : Int) (a2 : Int) (a3 : Int) (a4 : Int) : Option (Int × Int × Int × Int × Int × Bool × Int × Int × Bool × Int) := (sat_Clamp.f a4 0 1125899906842624).bind fun t134 => ((sat_Clamp.f a2 0 17179869184).bind fun t135 => ((sat_Clamp.f a3 1000 1000000).bind fun t136 => (if s0_7 = true then ((sat_Clamp.f (wrap64 (t134 - s0_8)) 0 1000000).bind fun t138 => (aimd_Aimd_Update.j0 k a1 t134 s0_0 s0_1 s0_2 s0_3 s0_4 s0_5 s0_6 s0_7 s0_8 t135 t136 t138)) else (aimd_Aimd_Update.j0 k a1 t134 s0_0 s0_1 s0_2 s0_3 s0_4 s0_5 s0_6 s0_7 s0_8 t135 t136 0))))
theorem aimd_Aimd_Update.mono_l : ∀ k, (∀ y0 y1 y2 y3 y4 y5 y6 y7 y8 y9 y10 y11 y12 y13, LeO (aimd_Aimd_Update.j0 k y0 y1 y2 y3 y4 y5 y6 y7 y8 y9 y10 y11 y12 y13) (aimd_Aimd_Update.j0 (k + 1) y0 y1 y2 y3 y4 y5 y6 y7 y8 y9 y10 y11 y12 y13))
 | 0 => fun _ _ _ _ _ _ _ _ _ _ _ _ _ _ r h => by simp [aimd_Aimd_Update.j0] at h
 | k + 1 => by
  have ih0 := aimd_Aimd_Update.mono_l k
  ·intro y0 y1 y2 y3 y4 y5 y6 y7 y8 y9 y10 y11 y12 y13
   unfold aimd_Aimd_Update.j0
   repeat' first
   | (with_reducible exact ih0 _ _ _ _ _ _ _ _ _ _ _ _ _ _)
   | (with_reducible exact aimd_Aimd_lift.mono _ _ _ _ _ _ _ _ _ _ _ _ _)
   | (with_reducible exact LeO.refl _)
   | (with_reducible exact LeO.none _)
   | (with_reducible refine LeO.ite ?_ ?_)
   | (with_reducible refine LeO.bind ?_ (fun _ => ?_))
   | exact ih0 _ _ _ _ _ _ _ _ _ _ _ _ _ _
   | exact aimd_Aimd_lift.mono _ _ _ _ _ _ _ _ _ _ _ _ _
   | exact LeO.none _
   | refine LeO.ite ?_ ?_
   | refine LeO.bind ?_ (fun _ => ?_)
theorem aimd_Aimd_Update.mono : ∀ a0 a1 a2 a3 a4 a5 a6 a7 a8 a9 a10 a11 a12 k, LeO (aimd_Aimd_Update.f k a0 a1 a2 a3 a4 a5 a6 a7 a8 a9 a10 a11 a12) (aimd_Aimd_Update.f (k + 1) a0 a1 a2 a3 a4 a5 a6 a7 a8 a9 a10 a11 a12) := by
 intro a0 a1 a2 a3 a4 a5 a6 a7 a8 a9 a10 a11 a12 k
 have ih0 := aimd_Aimd_Update.mono_l k
 unfold aimd_Aimd_Update.f
 repeat' first
   | (with_reducible exact ih0 _ _ _ _ _ _ _ _ _ _ _ _ _ _)
   | (with_reducible exact aimd_Aimd_lift.mono _ _ _ _ _ _ _ _ _ _ _ _ _)
   | (with_reducible exact LeO.refl _)
   | (with_reducible exact LeO.none _)
   | (with_reducible refine LeO.ite ?_ ?_)
   | (with_reducible refine LeO.bind ?_ (fun _ => ?_))
   | exact ih0 _ _ _ _ _ _ _ _ _ _ _ _ _ _
   | exact aimd_Aimd_lift.mono _ _ _ _ _ _ _ _ _ _ _ _ _
   | exact LeO.none _
   | refine LeO.ite ?_ ?_
   | refine LeO.bind ?_ (fun _ => ?_)
def aimd_Aimd_Update.T14 : Bool × List (List Nat × List Nat) := (true, [([], []), ([], []), ([1], [1]), ([2], [2]), ([3], [3]), ([], []), ([5], [5]), ([6], [6]), ([7], [7]), ([], []), ([9], [9]), ([10], [10]), ([11], [11]), ([4, 8, 12], [4, 8, 12]), ([0, 0, 1, 2, 3, 4, 5, 6, 7, 8, 9, 10, 11, 12, 13], [0]), ([14, 0, 1, 2, 3, 4, 5, 6, 7, 8, 9, 10, 11, 12, 13], [14]), ([15, 13, 13, 0, 1, 2, 3, 4, 5, 6, 7, 8, 9, 10, 11, 12, 13], [13, 15])])
def aimd_Aimd_Update.B14 : List Nat := [0, 0, 2, 6, 14, 0, 32, 96, 224, 0, 512, 1536, 3584, 8190, 16383, 32767, 65535]
theorem aimd_Aimd_Update.tab14 : rtab .any (opsOf Try.f18 14) = aimd_Aimd_Update.T14 := by kernel_rfl
theorem aimd_Aimd_Update.bits14 : waitsOk aimd_Aimd_Update.T14.2 aimd_Aimd_Update.B14 = true := by kernel_rfl
set_option maxHeartbeats 8000000 in
set_option maxRecDepth 100000 in
theorem aimd_Aimd_Update.calls (k : Nat) (g : Nat) (s0_0 : Int) (s0_1 : Int) (s0_2 : Int) (s0_3 : Int) (s0_4 : Bool) (s0_5 : Int) (s0_6 : Int) (s0_7 : Bool) (s0_8 : Int) (a1 : Int) (a2 : Int) (a3 : Int) (a4 : Int) (r1 : Int) (r2 : Int) (r3 : Int) (r4 : Int) (r5 : Int) (r6 : Bool) (r7 : Int) (r8 : Int) (r9 : Bool) (r10 : Int) (w0 w : World) (hI : IsS63 w0 w g s0_0 s0_1 s0_2 s0_3 s0_4 s0_5 s0_6 s0_7 s0_8) (hB : Below w0.heap.size w0 w) (h : aimd_Aimd_Update.f k s0_0 s0_1 s0_2 s0_3 s0_4 s0_5 s0_6 s0_7 s0_8 a1 a2 a3 a4 = some (r1, r2, r3, r4, r5, r6, r7, r8, r9, r10)) :
  Calls Try.prog 18 #[.pointer (some ⟨g, 0, none⟩), .int .i64 a1, .int .i64 a2, .int .i64 a3, .int .i64 a4] w fun e w' => e = .returned (.int .i64 r1) ∧ IsS63 w0 w' g r2 r3 r4 r5 r6 r7 r8 r9 r10 ∧ Below w0.heap.size w0 w' ∧ KeepBut w w' g none := by
 have hu66 := Try.underlying66
 have hpn25_eql : ∀ (a_ : Addr) (W_ : World), (Go.binOp .eql 25 (.pointer (some a_)) (.pointer none)).run Try.prog W_ = .ok (.bool false) W_ := fun _ _ => by kernel_rfl
 have hnn25_eql : ∀ (W_ : World), (Go.binOp .eql 25 (.pointer none) (.pointer none)).run Try.prog W_ = .ok (.bool true) W_ := fun _ => by kernel_rfl
 have HI0 := Aside0.mk hI
 have HK := Aside0.mk (KeepBut.refl w g none)
 have HL := Aside0.mk hB.size
 clear hI
 have HW0 := Aside0.mk hB.size
 have HB := Aside0.mk hB
 clear hB
 have H : ((sat_Clamp.f a4 0 1125899906842624).bind fun t134 => ((sat_Clamp.f a2 0 17179869184).bind fun t135 => ((sat_Clamp.f a3 1000 1000000).bind fun t136 => (if s0_7 = true then ((sat_Clamp.f (wrap64 (t134 - s0_8)) 0 1000000).bind fun t138 => (aimd_Aimd_Update.j0 k a1 t134 s0_0 s0_1 s0_2 s0_3 s0_4 s0_5 s0_6 s0_7 s0_8 t135 t136 t138)) else (aimd_Aimd_Update.j0 k a1 t134 s0_0 s0_1 s0_2 s0_3 s0_4 s0_5 s0_6 s0_7 s0_8 t135 t136 0))))) = some (r1, r2, r3, r4, r5, r6, r7, r8, r9, r10) := h
 clear h
 replace H := Option.bind_eq_some_iff.mp H
 obtain ⟨t134, A60, H⟩ := H
 replace H : ((sat_Clamp.f a2 0 17179869184).bind fun t135 => ((sat_Clamp.f a3 1000 1000000).bind fun t136 => (if s0_7 = true then ((sat_Clamp.f (wrap64 (t134 - s0_8)) 0 1000000).bind fun t138 => (aimd_Aimd_Update.j0 k a1 t134 s0_0 s0_1 s0_2 s0_3 s0_4 s0_5 s0_6 s0_7 s0_8 t135 t136 t138)) else (aimd_Aimd_Update.j0 k a1 t134 s0_0 s0_1 s0_2 s0_3 s0_4 s0_5 s0_6 s0_7 s0_8 t135 t136 0)))) = some (r1, r2, r3, r4, r5, r6, r7, r8, r9, r10) := H
 have A6 := Aside0.mk A60
 clear A60
 replace H := Option.bind_eq_some_iff.mp H
 obtain ⟨t135, A70, H⟩ := H
 replace H : ((sat_Clamp.f a3 1000 1000000).bind fun t136 => (if s0_7 = true then ((sat_Clamp.f (wrap64 (t134 - s0_8)) 0 1000000).bind fun t138 => (aimd_Aimd_Update.j0 k a1 t134 s0_0 s0_1 s0_2 s0_3 s0_4 s0_5 s0_6 s0_7 s0_8 t135 t136 t138)) else (aimd_Aimd_Update.j0 k a1 t134 s0_0 s0_1 s0_2 s0_3 s0_4 s0_5 s0_6 s0_7 s0_8 t135 t136 0))) = some (r1, r2, r3, r4, r5, r6, r7, r8, r9, r10) := H
 have A7 := Aside0.mk A70
 clear A70
 replace H := Option.bind_eq_some_iff.mp H
 obtain ⟨t136, A80, H⟩ := H
 replace H : (if s0_7 = true then ((sat_Clamp.f (wrap64 (t134 - s0_8)) 0 1000000).bind fun t138 => (aimd_Aimd_Update.j0 k a1 t134 s0_0 s0_1 s0_2 s0_3 s0_4 s0_5 s0_6 s0_7 s0_8 t135 t136 t138)) else (aimd_Aimd_Update.j0 k a1 t134 s0_0 s0_1 s0_2 s0_3 s0_4 s0_5 s0_6 s0_7 s0_8 t135 t136 0)) = some (r1, r2, r3, r4, r5, r6, r7, r8, r9, r10) := H
 have A8 := Aside0.mk A80
 clear A80
 have HC9 := Aside0.mk H
 clear H
 go_enter Try.func18, Try.ntmps18
 go_upto_if 24 with (first | ((with_reducible refine gate_callee (f := 36) rfl ?_); refine goesL_ (some 15) rfl rfl Try.func36 (by kernel_rfl) rfl #[.int .i64 a4, .int .i64 0, .int .i64 1125899906842624] rfl (by (try simp only [List.map_toArray, List.map_cons, List.map_nil]); first | done | rfl | (simp only [List.length_drop, List.length_take]; rfl)) ?_; (with_reducible refine (sat_Clamp.calls a4 0 1125899906842624 t134 _ A6.out).mono ?_); rintro e w' ⟨rfl, ⟨nd, rfl⟩⟩; refine ⟨_, rfl, ?_⟩; (generalize hq_ : World.drewN w _ = w10; have n0_ : Aside0 (IsS63 w0 w10 g s0_0 s0_1 s0_2 s0_3 s0_4 s0_5 s0_6 s0_7 s0_8) := ⟨by rw [← hq_]; exact (by repeat (first | (with_reducible first | exact HI0.out | apply IsS63.alloc | apply IsS63.drewN | apply IsS63.drew | apply IsS63.set_0 | apply IsS63.set_1 | apply IsS63.set_2 | apply IsS63.set_3 | apply IsS63.set_4 | apply IsS63.set_5 | apply IsS63.set_6 | apply IsS63.set_7 | apply IsS63.set_8) | exact HI0.out))⟩; have n1_ : Aside0 (KeepBut w w10 g none) := ⟨by rw [← hq_]; exact (by repeat (first | (with_reducible first | exact HK.out | apply KeepBut.set_ | apply keep_drewN | apply keep_drew | apply keep_alloc) | exact HK.out))⟩; have n2_ : Aside0 (Below w0.heap.size w0 w10) := ⟨by rw [← hq_]; exact (by repeat (first | (with_reducible first | exact HB.out | apply below_alloc | apply pw_below_drewN | apply below_drew1 | refine below_set ?_ (IsS63.ge HI0.out)) | exact HB.out))⟩; clear HI0 HK HB hq_; have HI0 := n0_; have HK := n1_; have HB := n2_; clear n0_ n1_ n2_)) | ((with_reducible refine gate_callee (f := 36) rfl ?_); refine goesL_ (some 17) rfl rfl Try.func36 (by kernel_rfl) rfl #[.int .i64 a2, .int .i64 0, .int .i64 17179869184] rfl (by (try simp only [List.map_toArray, List.map_cons, List.map_nil]); first | done | rfl | (simp only [List.length_drop, List.length_take]; rfl)) ?_; (with_reducible refine (sat_Clamp.calls a2 0 17179869184 t135 _ A7.out).mono ?_); rintro e w' ⟨rfl, ⟨nd, rfl⟩⟩; refine ⟨_, rfl, ?_⟩; (try (rw [drewN_self w10]; generalize hq_ : World.drewN w10 _ = w10; have n0_ : Aside0 (IsS63 w0 w10 g s0_0 s0_1 s0_2 s0_3 s0_4 s0_5 s0_6 s0_7 s0_8) := ⟨by rw [← hq_]; exact (by repeat (first | (with_reducible first | exact HI0.out | apply IsS63.alloc | apply IsS63.drewN | apply IsS63.drew | apply IsS63.set_0 | apply IsS63.set_1 | apply IsS63.set_2 | apply IsS63.set_3 | apply IsS63.set_4 | apply IsS63.set_5 | apply IsS63.set_6 | apply IsS63.set_7 | apply IsS63.set_8) | exact HI0.out))⟩; have n1_ : Aside0 (KeepBut w w10 g none) := ⟨by rw [← hq_]; exact (by repeat (first | (with_reducible first | exact HK.out | apply KeepBut.set_ | apply keep_drewN | apply keep_drew | apply keep_alloc) | exact HK.out))⟩; have n2_ : Aside0 (Below w0.heap.size w0 w10) := ⟨by rw [← hq_]; exact (by repeat (first | (with_reducible first | exact HB.out | apply below_alloc | apply pw_below_drewN | apply below_drew1 | refine below_set ?_ (IsS63.ge HI0.out)) | exact HB.out))⟩; clear HI0 HK HB hq_; have HI0 := n0_; have HK := n1_; have HB := n2_; clear n0_ n1_ n2_))) | ((with_reducible refine gate_callee (f := 36) rfl ?_); refine goesL_ (some 19) rfl rfl Try.func36 (by kernel_rfl) rfl #[.int .i64 a3, .int .i64 1000, .int .i64 1000000] rfl (by (try simp only [List.map_toArray, List.map_cons, List.map_nil]); first | done | rfl | (simp only [List.length_drop, List.length_take]; rfl)) ?_; (with_reducible refine (sat_Clamp.calls a3 1000 1000000 t136 _ A8.out).mono ?_); rintro e w' ⟨rfl, ⟨nd, rfl⟩⟩; refine ⟨_, rfl, ?_⟩; (try (rw [drewN_self w10]; generalize hq_ : World.drewN w10 _ = w10; have n0_ : Aside0 (IsS63 w0 w10 g s0_0 s0_1 s0_2 s0_3 s0_4 s0_5 s0_6 s0_7 s0_8) := ⟨by rw [← hq_]; exact (by repeat (first | (with_reducible first | exact HI0.out | apply IsS63.alloc | apply IsS63.drewN | apply IsS63.drew | apply IsS63.set_0 | apply IsS63.set_1 | apply IsS63.set_2 | apply IsS63.set_3 | apply IsS63.set_4 | apply IsS63.set_5 | apply IsS63.set_6 | apply IsS63.set_7 | apply IsS63.set_8) | exact HI0.out))⟩; have n1_ : Aside0 (KeepBut w w10 g none) := ⟨by rw [← hq_]; exact (by repeat (first | (with_reducible first | exact HK.out | apply KeepBut.set_ | apply keep_drewN | apply keep_drew | apply keep_alloc) | exact HK.out))⟩; have n2_ : Aside0 (Below w0.heap.size w0 w10) := ⟨by rw [← hq_]; exact (by repeat (first | (with_reducible first | exact HB.out | apply below_alloc | apply pw_below_drewN | apply below_drew1 | refine below_set ?_ (IsS63.ge HI0.out)) | exact HB.out))⟩; clear HI0 HK HB hq_; have HI0 := n0_; have HK := n1_; have HB := n2_; clear n0_ n1_ n2_))) | ((with_reducible refine gate_dst (N := 11) rfl ?_); refine box_event ?hg (N := 11) ?hd (cs := #[.int .i64 0, .int .i64 0, .int .i64 0]) (t := 66) ?hr ?_; (case hd => rfl); (case hg => rfl); (case hr => first | (go_simp; done) | (go_simp; rfl)); intro gb137 hg w11 hbox hb; have n0_ := Aside0.mk (IsS63.below (by repeat (first | (with_reducible first | exact HI0.out | apply IsS63.alloc | apply IsS63.drewN | apply IsS63.drew | apply IsS63.set_0 | apply IsS63.set_1 | apply IsS63.set_2 | apply IsS63.set_3 | apply IsS63.set_4 | apply IsS63.set_5 | apply IsS63.set_6 | apply IsS63.set_7 | apply IsS63.set_8) | exact HI0.out)) hb); have n1_ := Aside0.mk (KeepBut.trans (by repeat (first | (with_reducible first | exact HK.out | apply KeepBut.set_ | apply keep_drewN | apply keep_drew | apply keep_alloc) | exact HK.out)) (KeepBut.of_below hb g none) (.inl rfl)); have n2_ := Aside0.mk (below_step (by repeat (first | (with_reducible first | exact HB.out | apply below_alloc | apply pw_below_drewN | apply below_drew1 | refine below_set ?_ (IsS63.ge HI0.out)) | exact HB.out)) hb); have n3_ := Aside0.mk (hbox); have n4_ := Aside0.mk ((by rw [hg]; exact (keep_size (w := w) (g := g) (row := none) (by repeat (first | (with_reducible first | exact HK.out | apply KeepBut.set_ | apply keep_drewN | apply keep_drew | apply keep_alloc) | exact HK.out))) : w.heap.size ≤ gb137)); have n5_ := Aside0.mk ((Nat.le_trans HW0.out (by rw [hg]; exact (keep_size (w := w) (g := g) (row := none) (by repeat (first | (with_reducible first | exact HK.out | apply KeepBut.set_ | apply keep_drewN | apply keep_drew | apply keep_alloc) | exact HK.out))) : w.heap.size ≤ gb137) : w0.heap.size ≤ gb137)); have n6_ := Aside0.mk ((by rw [hg]; exact Nat.ne_of_lt (IsS63.lt (show IsS63 w0 _ g s0_0 s0_1 s0_2 s0_3 s0_4 s0_5 s0_6 s0_7 s0_8 from by repeat (first | (with_reducible first | exact HI0.out | apply IsS63.alloc | apply IsS63.drewN | apply IsS63.drew | apply IsS63.set_0 | apply IsS63.set_1 | apply IsS63.set_2 | apply IsS63.set_3 | apply IsS63.set_4 | apply IsS63.set_5 | apply IsS63.set_6 | apply IsS63.set_7 | apply IsS63.set_8) | exact HI0.out))) : g ≠ gb137)); have n7_ := Aside0.mk ((by rw [hg]; exact Nat.ne_of_gt (IsS63.lt (show IsS63 w0 _ g s0_0 s0_1 s0_2 s0_3 s0_4 s0_5 s0_6 s0_7 s0_8 from by repeat (first | (with_reducible first | exact HI0.out | apply IsS63.alloc | apply IsS63.drewN | apply IsS63.drew | apply IsS63.set_0 | apply IsS63.set_1 | apply IsS63.set_2 | apply IsS63.set_3 | apply IsS63.set_4 | apply IsS63.set_5 | apply IsS63.set_6 | apply IsS63.set_7 | apply IsS63.set_8) | exact HI0.out))) : gb137 ≠ g)); clear HI0; clear HK; clear HB; have HI0 := n0_; have HK := n1_; have HB := n2_; have BK137 := n3_; have GW137 := n4_; have GE137 := n5_; have NB0_137 := n6_; have NB137_0 := n7_; clear n0_ n1_ n2_ n3_ n4_ n5_ n6_ n7_; clear hb hbox hg; have hnb12 := NB137_0.out; have hnc12 := NB0_137.out; have hcz13_0 : w11.cell? ⟨gb137, 0, none⟩ = some (.int .i64 0) := (blk_cell BK137.out 0).trans rfl; have hcz13_1 : w11.cell? ⟨gb137, 1, none⟩ = some (.int .i64 0) := (blk_cell BK137.out 1).trans rfl; have hcz13_2 : w11.cell? ⟨gb137, 2, none⟩ = some (.int .i64 0) := (blk_cell BK137.out 2).trans rfl; have hfz13_0 := blk_frozen BK137.out 0; have hfz13_1 := blk_frozen BK137.out 1; have hfz13_2 := blk_frozen BK137.out 2; obtain ⟨HGz14, hgz14⟩ := HI0.out; have hcz14_0 := cellS63_0 HGz14; have hcz14_1 := cellS63_1 HGz14; have hcz14_2 := cellS63_2 HGz14; have hcz14_3 := cellS63_3 HGz14; have hcz14_4 := cellS63_4 HGz14; have hcz14_5 := cellS63_5 HGz14; have hcz14_6 := cellS63_6 HGz14; have hcz14_7 := cellS63_7 HGz14; have hcz14_8 := cellS63_8 HGz14; have hfz14_0 := blk_frozen HGz14 0; have hfz14_1 := blk_frozen HGz14 1; have hfz14_2 := blk_frozen HGz14 2; have hfz14_3 := blk_frozen HGz14 3; have hfz14_4 := blk_frozen HGz14 4; have hfz14_5 := blk_frozen HGz14 5; have hfz14_6 := blk_frozen HGz14 6; have hfz14_7 := blk_frozen HGz14 7; have hfz14_8 := blk_frozen HGz14 8; clear HGz14 hgz14))
 (try simp only [Act.put, List.setIfInBounds_toArray, List.set_cons_zero, List.set_cons_succ])
 go_cut [] (fun wc => ∃ (kq : Nat) (x138002_8 : Int), Aside0 (aimd_Aimd_Update.j0 kq a1 t134 s0_0 s0_1 s0_2 s0_3 s0_4 s0_5 s0_6 s0_7 s0_8 t135 t136 x138002_8 = some (r1, r2, r3, r4, r5, r6, r7, r8, r9, r10)) ∧ Aside0 (kq ≤ k) ∧ Aside0 (wc.heap[gb137]? = some (.cells #[.int .i64 t135, .int .i64 t136, .int .i64 x138002_8] 66 (0, 0))) ∧ Aside0 (IsS63 w0 wc g s0_0 s0_1 s0_2 s0_3 s0_4 s0_5 s0_6 s0_7 s0_8) ∧ Aside0 (KeepBut w wc g none) ∧ Aside0 (Below w0.heap.size w0 wc))
 case first =>
  have H := HC9.out
  clear HC9
  by_cases c15 : s0_7 = true
  ·subst c15
   have H1 : ((sat_Clamp.f (wrap64 (t134 - s0_8)) 0 1000000).bind fun t138 => (aimd_Aimd_Update.j0 k a1 t134 s0_0 s0_1 s0_2 s0_3 s0_4 s0_5 s0_6 true s0_8 t135 t136 t138)) = some (r1, r2, r3, r4, r5, r6, r7, r8, r9, r10) := by rw [if_pos rfl] at H; exact H
   clear H
   have H := H1
   clear H1
   replace H := Option.bind_eq_some_iff.mp H
   obtain ⟨t138, A160, H⟩ := H
   replace H : (aimd_Aimd_Update.j0 k a1 t134 s0_0 s0_1 s0_2 s0_3 s0_4 s0_5 s0_6 true s0_8 t135 t136 t138) = some (r1, r2, r3, r4, r5, r6, r7, r8, r9, r10) := H
   have A16 := Aside0.mk A160
   clear A160
   have H' := Aside0.mk H
   clear H
   obtain ⟨HGz17, hgz17⟩ := HI0.out
   have hcz17_0 := cellS63_0 HGz17
   have hcz17_1 := cellS63_1 HGz17
   have hcz17_2 := cellS63_2 HGz17
   have hcz17_3 := cellS63_3 HGz17
   have hcz17_4 := cellS63_4 HGz17
   have hcz17_5 := cellS63_5 HGz17
   have hcz17_6 := cellS63_6 HGz17
   have hcz17_7 := cellS63_7 HGz17
   have hcz17_8 := cellS63_8 HGz17
   have hfz17_0 := blk_frozen HGz17 0
   have hfz17_1 := blk_frozen HGz17 1
   have hfz17_2 := blk_frozen HGz17 2
   have hfz17_3 := blk_frozen HGz17 3
   have hfz17_4 := blk_frozen HGz17 4
   have hfz17_5 := blk_frozen HGz17 5
   have hfz17_6 := blk_frozen HGz17 6
   have hfz17_7 := blk_frozen HGz17 7
   have hfz17_8 := blk_frozen HGz17 8
   clear HGz17 hgz17
   go_wp2_with (first | ((with_reducible refine gate_callee (f := 36) rfl ?_); refine goesL_ (some 31) rfl rfl Try.func36 (by kernel_rfl) rfl #[.int .i64 (wrap64 (t134 - s0_8)), .int .i64 0, .int .i64 1000000] rfl (by (try simp only [List.map_toArray, List.map_cons, List.map_nil]); first | done | rfl | (simp only [List.length_drop, List.length_take]; rfl)) ?_; (with_reducible refine (sat_Clamp.calls (wrap64 (t134 - s0_8)) 0 1000000 t138 _ A16.out).mono ?_); rintro e w' ⟨rfl, ⟨nd, rfl⟩⟩; refine ⟨_, rfl, ?_⟩; have hnb18 := NB137_0.out; have hnc18 := NB0_137.out; have hcz19_0 : w11.cell? ⟨gb137, 0, none⟩ = some (.int .i64 0) := (blk_cell BK137.out 0).trans rfl; have hcz19_1 : w11.cell? ⟨gb137, 1, none⟩ = some (.int .i64 0) := (blk_cell BK137.out 1).trans rfl; have hcz19_2 : w11.cell? ⟨gb137, 2, none⟩ = some (.int .i64 0) := (blk_cell BK137.out 2).trans rfl; have hfz19_0 := blk_frozen BK137.out 0; have hfz19_1 := blk_frozen BK137.out 1; have hfz19_2 := blk_frozen BK137.out 2))
   go_meet
   case rel => exact ⟨_, (t138), H', ⟨by first | omega | exact Nat.le_refl _⟩, ⟨by (with_reducible repeat (first | refine blk_drewN ?_ _ | refine blk_drew ?_ | refine blk_alloc ?_ _)); refine blk_put (cs := #[.int .i64 t135, .int .i64 t136, .int .i64 0]) ?_ 2 _ rfl; (with_reducible repeat (first | refine blk_drewN ?_ _ | refine blk_drew ?_ | refine blk_alloc ?_ _)); refine blk_put (cs := #[.int .i64 t135, .int .i64 t136, .int .i64 0]) ?_ 2 _ rfl; (with_reducible repeat (first | refine blk_drewN ?_ _ | refine blk_drew ?_ | refine blk_alloc ?_ _)); refine blk_put (cs := #[.int .i64 t135, .int .i64 0, .int .i64 0]) ?_ 1 _ rfl; (with_reducible repeat (first | refine blk_drewN ?_ _ | refine blk_drew ?_ | refine blk_alloc ?_ _)); refine blk_put (cs := #[.int .i64 0, .int .i64 0, .int .i64 0]) ?_ 0 _ rfl; (with_reducible repeat (first | refine blk_drewN ?_ _ | refine blk_drew ?_ | refine blk_alloc ?_ _)); exact BK137.out⟩, ⟨by repeat (first | (with_reducible first | exact HI0.out | apply IsS63.alloc | apply IsS63.drewN | apply IsS63.drew | apply IsS63.set_0 | apply IsS63.set_1 | apply IsS63.set_2 | apply IsS63.set_3 | apply IsS63.set_4 | apply IsS63.set_5 | apply IsS63.set_6 | apply IsS63.set_7 | apply IsS63.set_8 | refine IsS63.far ?_ NB0_137.out _) | exact HI0.out)⟩, ⟨by repeat (first | (with_reducible first | exact HK.out | apply KeepBut.set_ | apply keep_drewN | apply keep_drew | apply keep_alloc | refine keep_far ?_ GW137.out _) | exact HK.out)⟩, ⟨by repeat (first | (with_reducible first | exact HB.out | apply below_alloc | apply pw_below_drewN | apply below_drew1 | refine below_set ?_ (IsS63.ge HI0.out) | refine below_set ?_ GE137.out) | exact HB.out)⟩⟩
  ·replace c15 := Bool.eq_false_iff.mpr c15
   subst c15
   have H1 : (aimd_Aimd_Update.j0 k a1 t134 s0_0 s0_1 s0_2 s0_3 s0_4 s0_5 s0_6 false s0_8 t135 t136 0) = some (r1, r2, r3, r4, r5, r6, r7, r8, r9, r10) := by rw [if_neg (show ¬ (false = true) by decide)] at H; exact H
   clear H
   have H := H1
   clear H1
   have H' := Aside0.mk H
   clear H
   go_wp2
   go_meet
   case rel => exact ⟨_, (0), H', ⟨by first | omega | exact Nat.le_refl _⟩, ⟨by (with_reducible repeat (first | refine blk_drewN ?_ _ | refine blk_drew ?_ | refine blk_alloc ?_ _)); refine blk_put (cs := #[.int .i64 t135, .int .i64 t136, .int .i64 0]) ?_ 2 _ rfl; (with_reducible repeat (first | refine blk_drewN ?_ _ | refine blk_drew ?_ | refine blk_alloc ?_ _)); refine blk_put (cs := #[.int .i64 t135, .int .i64 0, .int .i64 0]) ?_ 1 _ rfl; (with_reducible repeat (first | refine blk_drewN ?_ _ | refine blk_drew ?_ | refine blk_alloc ?_ _)); refine blk_put (cs := #[.int .i64 0, .int .i64 0, .int .i64 0]) ?_ 0 _ rfl; (with_reducible repeat (first | refine blk_drewN ?_ _ | refine blk_drew ?_ | refine blk_alloc ?_ _)); exact BK137.out⟩, ⟨by repeat (first | (with_reducible first | exact HI0.out | apply IsS63.alloc | apply IsS63.drewN | apply IsS63.drew | apply IsS63.set_0 | apply IsS63.set_1 | apply IsS63.set_2 | apply IsS63.set_3 | apply IsS63.set_4 | apply IsS63.set_5 | apply IsS63.set_6 | apply IsS63.set_7 | apply IsS63.set_8 | refine IsS63.far ?_ NB0_137.out _) | exact HI0.out)⟩, ⟨by repeat (first | (with_reducible first | exact HK.out | apply KeepBut.set_ | apply keep_drewN | apply keep_drew | apply keep_alloc | refine keep_far ?_ GW137.out _) | exact HK.out)⟩, ⟨by repeat (first | (with_reducible first | exact HB.out | apply below_alloc | apply pw_below_drewN | apply below_drew1 | refine below_set ?_ (IsS63.ge HI0.out) | refine below_set ?_ GE137.out) | exact HB.out)⟩⟩
 case rest =>
  clear HC9
  try clear c1
  try clear p2
  try clear c3
  try clear p6
  try clear c12
  try clear c15
  try clear c18
  try clear hcz13_0
  try clear hcz13_1
  try clear hcz13_2
  try clear hcz14_0
  try clear hcz14_1
  try clear hcz14_2
  try clear hcz14_3
  try clear hcz14_4
  try clear hcz14_5
  try clear hcz14_6
  try clear hcz14_7
  try clear hcz14_8
  try clear hcz17_0
  try clear hcz17_1
  try clear hcz17_2
  try clear hcz17_3
  try clear hcz17_4
  try clear hcz17_5
  try clear hcz17_6
  try clear hcz17_7
  try clear hcz17_8
  try clear hcz19_0
  try clear hcz19_1
  try clear hcz19_2
  try clear hfz13_0
  try clear hfz13_1
  try clear hfz13_2
  try clear hfz14_0
  try clear hfz14_1
  try clear hfz14_2
  try clear hfz14_3
  try clear hfz14_4
  try clear hfz14_5
  try clear hfz14_6
  try clear hfz14_7
  try clear hfz14_8
  try clear hfz17_0
  try clear hfz17_1
  try clear hfz17_2
  try clear hfz17_3
  try clear hfz17_4
  try clear hfz17_5
  try clear hfz17_6
  try clear hfz17_7
  try clear hfz17_8
  try clear hfz19_0
  try clear hfz19_1
  try clear hfz19_2
  obtain ⟨kq, x138002_8, HA, HJ8, BK137, HI0, HK, HB⟩ := hcut
  cases kq with
  | zero => exact absurd HA.out (by simp [aimd_Aimd_Update.j0])
  | succ kj8 =>
   have H := HA.out
   clear HA
   simp only [aimd_Aimd_Update.j0] at H
   by_cases c20 : a1 = 1
   ·rw [if_pos c20] at H
    have c20b0 : (a1 == 1) = true := beq_iff_eq.mpr c20
    have c20b1 : (a1 != 1) = false := bne_eq_false_iff_eq.mpr c20
    clear c20
    replace H := Option.bind_eq_some_iff.mp H
    obtain ⟨t139, A210, H⟩ := H
    replace H : ((aimd_Aimd_cut.f s0_0 s0_1 s0_2 2 s0_4 s0_5 s0_6 true t134 t135 t136 x138002_8).bind fun bt140 => ((sat_Clamp.f bt140.1 bt140.2.1 bt140.2.2.1).bind fun t149 => (some (t149, t149, bt140.2.1, bt140.2.2.1, bt140.2.2.2.1, bt140.2.2.2.2.1, bt140.2.2.2.2.2.1, bt140.2.2.2.2.2.2.1, bt140.2.2.2.2.2.2.2.1, bt140.2.2.2.2.2.2.2.2)))) = some (r1, r2, r3, r4, r5, r6, r7, r8, r9, r10) := H
    have A21 := Aside0.mk A210
    clear A210
    replace H := Option.bind_eq_some_iff.mp H
    obtain ⟨⟨t140, t141, t142, t143, t144, t145, t146, t147, t148⟩, A220, H⟩ := H
    replace H : ((sat_Clamp.f t140 t141 t142).bind fun t149 => (some (t149, t149, t141, t142, t143, t144, t145, t146, t147, t148))) = some (r1, r2, r3, r4, r5, r6, r7, r8, r9, r10) := H
    have A22 := Aside0.mk A220
    clear A220
    replace H := Option.bind_eq_some_iff.mp H
    obtain ⟨t149, A230, H⟩ := H
    replace H : (some (t149, t149, t141, t142, t143, t144, t145, t146, t147, t148)) = some (r1, r2, r3, r4, r5, r6, r7, r8, r9, r10) := H
    have A23 := Aside0.mk A230
    clear A230
    simp only [Option.some.injEq, Prod.mk.injEq] at H
    obtain ⟨rfl, rfl, rfl, rfl, rfl, rfl, rfl, rfl, rfl, rfl⟩ := H
    obtain ⟨HGz24, hgz24⟩ := HI0.out
    have hcz24_0 := cellS63_0 HGz24
    have hcz24_1 := cellS63_1 HGz24
    have hcz24_2 := cellS63_2 HGz24
    have hcz24_3 := cellS63_3 HGz24
    have hcz24_4 := cellS63_4 HGz24
    have hcz24_5 := cellS63_5 HGz24
    have hcz24_6 := cellS63_6 HGz24
    have hcz24_7 := cellS63_7 HGz24
    have hcz24_8 := cellS63_8 HGz24
    have hfz24_0 := blk_frozen HGz24 0
    have hfz24_1 := blk_frozen HGz24 1
    have hfz24_2 := blk_frozen HGz24 2
    have hfz24_3 := blk_frozen HGz24 3
    have hfz24_4 := blk_frozen HGz24 4
    have hfz24_5 := blk_frozen HGz24 5
    have hfz24_6 := blk_frozen HGz24 6
    have hfz24_7 := blk_frozen HGz24 7
    have hfz24_8 := blk_frozen HGz24 8
    clear HGz24 hgz24
    have hnb25 := NB137_0.out
    have hnc25 := NB0_137.out
    have hcz26_0 : wc.cell? ⟨gb137, 0, none⟩ = some (.int .i64 t135) := (blk_cell BK137.out 0).trans rfl
    have hcz26_1 : wc.cell? ⟨gb137, 1, none⟩ = some (.int .i64 t136) := (blk_cell BK137.out 1).trans rfl
    have hcz26_2 : wc.cell? ⟨gb137, 2, none⟩ = some (.int .i64 x138002_8) := (blk_cell BK137.out 2).trans rfl
    have hfz26_0 := blk_frozen BK137.out 0
    have hfz26_1 := blk_frozen BK137.out 1
    have hfz26_2 := blk_frozen BK137.out 2
    try go_wp2
    refine named_ ?_
    intro W_ hW_
    have hS_ : IsS63 w0 W_ g s0_0 s0_1 s0_2 2 s0_4 s0_5 s0_6 true t134 := by rw [hW_]; exact by repeat (first | (with_reducible first | exact HI0.out | apply IsS63.alloc | apply IsS63.drewN | apply IsS63.drew | apply IsS63.set_0 | apply IsS63.set_1 | apply IsS63.set_2 | apply IsS63.set_3 | apply IsS63.set_4 | apply IsS63.set_5 | apply IsS63.set_6 | apply IsS63.set_7 | apply IsS63.set_8 | refine IsS63.far ?_ NB0_137.out _) | exact HI0.out)
    have hX0_ : W_.heap[gb137]? = some (.cells #[.int .i64 t135, .int .i64 t136, .int .i64 x138002_8] 66 (0, 0)) := by rw [hW_]; exact (by (with_reducible repeat (first | refine blk_drewN ?_ _ | refine blk_drew ?_ | refine blk_alloc ?_ _)); refine blk_far ?_ NB137_0.out _; (with_reducible repeat (first | refine blk_drewN ?_ _ | refine blk_drew ?_ | refine blk_alloc ?_ _)); refine blk_far ?_ NB137_0.out _; (with_reducible repeat (first | refine blk_drewN ?_ _ | refine blk_drew ?_ | refine blk_alloc ?_ _)); refine blk_far ?_ NB137_0.out _; (with_reducible repeat (first | refine blk_drewN ?_ _ | refine blk_drew ?_ | refine blk_alloc ?_ _)); exact BK137.out)
    refine start_ (n := 13) (S := fun w' => Below W_.heap.size W_ w') (ds := [12]) #[false, false, false, false, false, false, false, false, false, false, false, false, false] (by kernel_rfl) rfl rfl (below_drew1 (Below.refl _ _)) (fun hHeld => ?_)
    refine pure_ (i := 5) (N := some 64) (v := ?_) (a' := ?_) (bl 13 32) rfl rfl (by kernel_rfl) (fun _ _ _ h => h) (Or.inl ⟨by rfl, ?_⟩) ?_ ?_
    rotate_left
    ·intro w'
     go_simp
     with_reducible rfl
    rotate_left
    ·simp only [puts_]
     rfl
    refine pure_ (i := 6) (N := some 65) (v := ?_) (a' := ?_) (bl 13 96) rfl rfl (by kernel_rfl) (fun _ _ _ h => h) (Or.inl ⟨by rfl, ?_⟩) ?_ ?_
    rotate_left
    ·intro w'
     go_simp
     with_reducible rfl
    rotate_left
    ·simp only [puts_]
     rfl
    refine pure_ (i := 7) (N := some 66) (v := ?_) (a' := ?_) (bl 13 224) rfl rfl (by kernel_rfl) (fun _ _ _ h => h) (Or.inl ⟨by rfl, ?_⟩) ?_ ?_
    rotate_left
    ·intro w'
     go_simp
     with_reducible rfl
    rotate_left
    ·simp only [puts_]
     rfl
    refine take_ (i := 8) (N := some 67) (v := ?_) (a' := ?_) (bl 13 480) rfl rfl (by kernel_rfl) (fun _ _ _ h => h) (Or.inl ⟨by rfl, ?_⟩) hHeld ?_ ?_
    rotate_left
    ·intro w' hw'
     have cb0_ := pw_cell_below hw' (IsS63.cell_3 hS_)
     have cb1_ := pw_cell_below hw' (show W_.cell? ⟨gb137, 0, none⟩ = some (.int .i64 t135) from (blk_cell hX0_ 0).trans rfl)
     have cb2_ := pw_cell_below hw' (show W_.cell? ⟨gb137, 1, none⟩ = some (.int .i64 t136) from (blk_cell hX0_ 1).trans rfl)
     have cb3_ := pw_cell_below hw' (show W_.cell? ⟨gb137, 2, none⟩ = some (.int .i64 x138002_8) from (blk_cell hX0_ 2).trans rfl)
     go_simp
     with_reducible rfl
    rotate_left
    ·simp only [puts_]
     rfl
    refine pure_ (i := 10) (N := some 69) (v := ?_) (a' := ?_) (bl 13 1504) rfl rfl (by kernel_rfl) (fun _ _ _ h => h) (Or.inl ⟨by rfl, ?_⟩) ?_ ?_
    rotate_left
    ·intro w'
     go_simp
     with_reducible rfl
    rotate_left
    ·simp only [puts_]
     rfl
    refine take_ (i := 11) (N := some 70) (v := ?_) (a' := ?_) (bl 13 3552) rfl rfl (by kernel_rfl) (fun _ _ _ h => h) (Or.inl ⟨by rfl, ?_⟩) hHeld ?_ ?_
    rotate_left
    ·intro w' hw'
     have cb0_ := pw_cell_below hw' (IsS63.cell_3 hS_)
     have cb1_ := pw_cell_below hw' (show W_.cell? ⟨gb137, 0, none⟩ = some (.int .i64 t135) from (blk_cell hX0_ 0).trans rfl)
     have cb2_ := pw_cell_below hw' (show W_.cell? ⟨gb137, 1, none⟩ = some (.int .i64 t136) from (blk_cell hX0_ 1).trans rfl)
     have cb3_ := pw_cell_below hw' (show W_.cell? ⟨gb137, 2, none⟩ = some (.int .i64 x138002_8) from (blk_cell hX0_ 2).trans rfl)
     go_simp
     with_reducible rfl
    rotate_left
    ·simp only [puts_]
     rfl
    refine one_ (i := 0) (N := some 62) (bl 13 3553) rfl rfl (by kernel_rfl) (by decide) (fun K hK => ?_)
    refine value_ (w1 := W_.drew.alloc (.map #[] 0)) (v := .map (some W_.drew.heap.size)) (by rfl) rfl (by rfl) ?_
    refine hK.out _ _ (below_alloc (below_drew1 (Below.refl _ _)) _) (fun hHeld => ?_)
    clear hK K
    refine norm_ (a' := ?_) ?_ ?_
    rotate_left
    ·show Act.put _ (some 62) _ = _
     simp only [puts_]
     rfl
    have hM0_ : FMap W_ (W_.drew.alloc (.map #[] 0)) W_.drew.heap.size [] := FMap.made (below_drew1 (Below.refl _ _))
    generalize hW0_ : W_.drew.alloc (.map #[] 0) = W0_ at hM0_ hHeld ⊢
    clear hW0_
    generalize hm_ : W_.drew.heap.size = m_ at hM0_ ⊢
    clear hm_
    refine join_ (σ := Unit) 3 #[true, true, true, true, false, true, true, true, true, false, true, true, false] (fun _ => []) (fun _ w' => ∃ l, FMap W_ w' m_ l ∧ l.find? (fun p => (2 : Int) == p.1) = some (2, 39)) ?_ ?_
    rotate_left
    ·intro hJ_
     refine three_ (i := 1) (j := 2) (k := 3) (Ni := none) (Nj := none) (Nk := none) (bl 13 3555) (bl 13 3557) (bl 13 3561) rfl rfl rfl rfl rfl rfl (by kernel_rfl) (by decide) (by decide) (by decide) ?_ ?_ ?_
     ·intro K hK
      obtain ⟨W1_, hr1_, hM1_⟩ := FMap.ins (P := Try.prog) Try.underlying69 Try.underlying3 hM0_ 0 37 (by decide)
      refine skip_ (w1 := W1_) (by rfl) rfl ?_ ?_
      ·exact ins_skip rfl hr1_
      refine hK.out _ _ hM1_.bel (fun hHeld => ?_)
      clear hK K
      refine two_ (i := 2) (j := 3) (Ni := none) (Nj := none) (bl 13 3559) (bl 13 3563) rfl rfl rfl rfl (by kernel_rfl) (by decide) (by decide) ?_ ?_
      ·intro K hK
       obtain ⟨W2_, hr2_, hM2_⟩ := FMap.ins (P := Try.prog) Try.underlying69 Try.underlying3 hM1_ 1 38 (by decide)
       refine skip_ (w1 := W2_) (by rfl) rfl ?_ ?_
       ·exact ins_skip rfl hr2_
       refine hK.out _ _ hM2_.bel (fun hHeld => ?_)
       clear hK K
       refine one_ (i := 3) (N := none) (bl 13 3567) rfl rfl (by kernel_rfl) (by decide) ?_
       ·intro K hK
        obtain ⟨W3_, hr3_, hM3_⟩ := FMap.ins (P := Try.prog) Try.underlying69 Try.underlying3 hM2_ 2 39 (by decide)
        refine skip_ (w1 := W3_) (by rfl) rfl ?_ ?_
        ·exact ins_skip rfl hr3_
        refine hK.out _ _ hM3_.bel (fun hHeld => ?_)
        clear hK K
        exact hJ_ () _ ⟨_, hM3_, by decide⟩
      ·intro K hK
       obtain ⟨W2_, hr2_, hM2_⟩ := FMap.ins (P := Try.prog) Try.underlying69 Try.underlying3 hM1_ 2 39 (by decide)
       refine skip_ (w1 := W2_) (by rfl) rfl ?_ ?_
       ·exact ins_skip rfl hr2_
       refine hK.out _ _ hM2_.bel (fun hHeld => ?_)
       clear hK K
       refine one_ (i := 2) (N := none) (bl 13 3567) rfl rfl (by kernel_rfl) (by decide) ?_
       ·intro K hK
        obtain ⟨W3_, hr3_, hM3_⟩ := FMap.ins (P := Try.prog) Try.underlying69 Try.underlying3 hM2_ 1 38 (by decide)
        refine skip_ (w1 := W3_) (by rfl) rfl ?_ ?_
        ·exact ins_skip rfl hr3_
        refine hK.out _ _ hM3_.bel (fun hHeld => ?_)
        clear hK K
        exact hJ_ () _ ⟨_, hM3_, by decide⟩
     ·intro K hK
      obtain ⟨W1_, hr1_, hM1_⟩ := FMap.ins (P := Try.prog) Try.underlying69 Try.underlying3 hM0_ 1 38 (by decide)
      refine skip_ (w1 := W1_) (by rfl) rfl ?_ ?_
      ·exact ins_skip rfl hr1_
      refine hK.out _ _ hM1_.bel (fun hHeld => ?_)
      clear hK K
      refine two_ (i := 1) (j := 3) (Ni := none) (Nj := none) (bl 13 3559) (bl 13 3565) rfl rfl rfl rfl (by kernel_rfl) (by decide) (by decide) ?_ ?_
      ·intro K hK
       obtain ⟨W2_, hr2_, hM2_⟩ := FMap.ins (P := Try.prog) Try.underlying69 Try.underlying3 hM1_ 0 37 (by decide)
       refine skip_ (w1 := W2_) (by rfl) rfl ?_ ?_
       ·exact ins_skip rfl hr2_
       refine hK.out _ _ hM2_.bel (fun hHeld => ?_)
       clear hK K
       refine one_ (i := 3) (N := none) (bl 13 3567) rfl rfl (by kernel_rfl) (by decide) ?_
       ·intro K hK
        obtain ⟨W3_, hr3_, hM3_⟩ := FMap.ins (P := Try.prog) Try.underlying69 Try.underlying3 hM2_ 2 39 (by decide)
        refine skip_ (w1 := W3_) (by rfl) rfl ?_ ?_
        ·exact ins_skip rfl hr3_
        refine hK.out _ _ hM3_.bel (fun hHeld => ?_)
        clear hK K
        exact hJ_ () _ ⟨_, hM3_, by decide⟩
      ·intro K hK
       obtain ⟨W2_, hr2_, hM2_⟩ := FMap.ins (P := Try.prog) Try.underlying69 Try.underlying3 hM1_ 2 39 (by decide)
       refine skip_ (w1 := W2_) (by rfl) rfl ?_ ?_
       ·exact ins_skip rfl hr2_
       refine hK.out _ _ hM2_.bel (fun hHeld => ?_)
       clear hK K
       refine one_ (i := 1) (N := none) (bl 13 3567) rfl rfl (by kernel_rfl) (by decide) ?_
       ·intro K hK
        obtain ⟨W3_, hr3_, hM3_⟩ := FMap.ins (P := Try.prog) Try.underlying69 Try.underlying3 hM2_ 0 37 (by decide)
        refine skip_ (w1 := W3_) (by rfl) rfl ?_ ?_
        ·exact ins_skip rfl hr3_
        refine hK.out _ _ hM3_.bel (fun hHeld => ?_)
        clear hK K
        exact hJ_ () _ ⟨_, hM3_, by decide⟩
     ·intro K hK
      obtain ⟨W1_, hr1_, hM1_⟩ := FMap.ins (P := Try.prog) Try.underlying69 Try.underlying3 hM0_ 2 39 (by decide)
      refine skip_ (w1 := W1_) (by rfl) rfl ?_ ?_
      ·exact ins_skip rfl hr1_
      refine hK.out _ _ hM1_.bel (fun hHeld => ?_)
      clear hK K
      refine two_ (i := 1) (j := 2) (Ni := none) (Nj := none) (bl 13 3563) (bl 13 3565) rfl rfl rfl rfl (by kernel_rfl) (by decide) (by decide) ?_ ?_
      ·intro K hK
       obtain ⟨W2_, hr2_, hM2_⟩ := FMap.ins (P := Try.prog) Try.underlying69 Try.underlying3 hM1_ 0 37 (by decide)
       refine skip_ (w1 := W2_) (by rfl) rfl ?_ ?_
       ·exact ins_skip rfl hr2_
       refine hK.out _ _ hM2_.bel (fun hHeld => ?_)
       clear hK K
       refine one_ (i := 2) (N := none) (bl 13 3567) rfl rfl (by kernel_rfl) (by decide) ?_
       ·intro K hK
        obtain ⟨W3_, hr3_, hM3_⟩ := FMap.ins (P := Try.prog) Try.underlying69 Try.underlying3 hM2_ 1 38 (by decide)
        refine skip_ (w1 := W3_) (by rfl) rfl ?_ ?_
        ·exact ins_skip rfl hr3_
        refine hK.out _ _ hM3_.bel (fun hHeld => ?_)
        clear hK K
        exact hJ_ () _ ⟨_, hM3_, by decide⟩
      ·intro K hK
       obtain ⟨W2_, hr2_, hM2_⟩ := FMap.ins (P := Try.prog) Try.underlying69 Try.underlying3 hM1_ 1 38 (by decide)
       refine skip_ (w1 := W2_) (by rfl) rfl ?_ ?_
       ·exact ins_skip rfl hr2_
       refine hK.out _ _ hM2_.bel (fun hHeld => ?_)
       clear hK K
       refine one_ (i := 1) (N := none) (bl 13 3567) rfl rfl (by kernel_rfl) (by decide) ?_
       ·intro K hK
        obtain ⟨W3_, hr3_, hM3_⟩ := FMap.ins (P := Try.prog) Try.underlying69 Try.underlying3 hM2_ 0 37 (by decide)
        refine skip_ (w1 := W3_) (by rfl) rfl ?_ ?_
        ·exact ins_skip rfl hr3_
        refine hK.out _ _ hM3_.bel (fun hHeld => ?_)
        clear hK K
        exact hJ_ () _ ⟨_, hM3_, by decide⟩
    rintro _ w27 ⟨l_, hM_, hf_⟩
    dsimp only [putAll]
    have hHeld := hM_.bel
    refine pure_ (i := 4) (N := some 63) (v := ?_) (a' := ?_) (bl 13 3583) rfl rfl (by kernel_rfl) (fun _ _ _ h => h) (Or.inl ⟨by rfl, ?_⟩) ?_ ?_
    rotate_left
    ·intro w'
     go_simp
     with_reducible rfl
    rotate_left
    ·simp only [puts_]
     rfl
    refine one_ (i := 9) (N := some 68) (bl 13 4095) rfl rfl (by kernel_rfl) (by decide) (fun K hK => ?_)
    refine value_ (w1 := w27) (v := fnv 39) (by rfl) rfl ?_ ?_
    ·have hl_ := FMap.look (P := Try.prog) Try.underlying69 Try.underlying3 hM_ 2 39 hf_
     exact look_val rfl hl_
    refine hK.out _ _ hM_.bel (fun hHeld => ?_)
    clear hK K
    refine norm_ (a' := ?_) ?_ ?_
    rotate_left
    ·show Act.put _ (some 68) _ = _
     simp only [puts_]
     rfl
    refine last_ (i := 12) (N := some 71) (bl 13 8191) rfl rfl (by kernel_rfl) (by decide) (fun K hK => ?_)
    refine call_ 39 #[.pointer (some ⟨g, 0, none⟩), .agg #[.int .i64 t135, .int .i64 t136, .int .i64 x138002_8]] (by rfl) rfl ?_ ?_
    ·simp [execOp, resolve, Deferred.ofValue, invoke, Act.eval, fnv, enters_ (P := Try.prog) (fn := Try.f39) Try.func39 (by kernel_rfl) rfl]
    have hb := hM_.bel
    clear hM_ hHeld hf_ hS_ hX0_
    subst hW_
    have n0_ := Aside0.mk (blk_below (g := gb137) (o := .cells #[.int .i64 t135, .int .i64 t136, .int .i64 x138002_8] 66 (0, 0)) (by (with_reducible repeat (first | refine blk_drewN ?_ _ | refine blk_drew ?_ | refine blk_alloc ?_ _)); refine blk_far ?_ NB137_0.out _; (with_reducible repeat (first | refine blk_drewN ?_ _ | refine blk_drew ?_ | refine blk_alloc ?_ _)); refine blk_far ?_ NB137_0.out _; (with_reducible repeat (first | refine blk_drewN ?_ _ | refine blk_drew ?_ | refine blk_alloc ?_ _)); refine blk_far ?_ NB137_0.out _; (with_reducible repeat (first | refine blk_drewN ?_ _ | refine blk_drew ?_ | refine blk_alloc ?_ _)); exact BK137.out) hb)
    have n1_ := Aside0.mk (IsS63.below (show IsS63 w0 (((wc.setCell ⟨g, 7, none⟩ (.bool true)).setCell ⟨g, 8, none⟩ (.int .i64 t134)).setCell ⟨g, 3, none⟩ (.int .i64 2)) g s0_0 s0_1 s0_2 2 s0_4 s0_5 s0_6 true t134 from by repeat (first | (with_reducible first | exact HI0.out | apply IsS63.alloc | apply IsS63.drewN | apply IsS63.drew | apply IsS63.set_0 | apply IsS63.set_1 | apply IsS63.set_2 | apply IsS63.set_3 | apply IsS63.set_4 | apply IsS63.set_5 | apply IsS63.set_6 | apply IsS63.set_7 | apply IsS63.set_8 | refine IsS63.far ?_ NB0_137.out _) | exact HI0.out)) hb)
    have n2_ := Aside0.mk (KeepBut.trans (by repeat (first | (with_reducible first | exact HK.out | apply KeepBut.set_ | apply keep_drewN | apply keep_drew | apply keep_alloc | refine keep_far ?_ GW137.out _) | exact HK.out)) (KeepBut.of_below hb g none) (.inl rfl))
    have n3_ := Aside0.mk (below_step (by repeat (first | (with_reducible first | exact HB.out | apply below_alloc | apply pw_below_drewN | apply below_drew1 | refine below_set ?_ (IsS63.ge HI0.out) | refine below_set ?_ GE137.out) | exact HB.out)) hb)
    clear BK137
    clear HI0
    clear HK
    clear HB
    have BK137 := n0_
    have HI0 := n1_
    have HK := n2_
    have HB := n3_
    clear n0_ n1_ n2_ n3_
    (try clear hb)
    (try clear hb2)
    (try clear hk)
    (try clear hi)
    (with_reducible refine (aimd_Aimd_cut.calls g s0_0 s0_1 s0_2 2 s0_4 s0_5 s0_6 true t134 t135 t136 x138002_8 t140 t141 t142 t143 t144 t145 t146 t147 t148 w0 _ ?side1 ?side2 A22.out).mono ?_)
    (case side1 => repeat (first | (with_reducible first | exact HI0.out | apply IsS63.alloc | apply IsS63.drewN | apply IsS63.drew | apply IsS63.set_0 | apply IsS63.set_1 | apply IsS63.set_2 | apply IsS63.set_3 | apply IsS63.set_4 | apply IsS63.set_5 | apply IsS63.set_6 | apply IsS63.set_7 | apply IsS63.set_8 | refine IsS63.far ?_ NB0_137.out _) | exact HI0.out))
    (case side2 => repeat (first | (with_reducible first | exact HB.out | apply below_alloc | apply pw_below_drewN | apply below_drew1 | refine below_set ?_ (IsS63.ge HI0.out) | refine below_set ?_ GE137.out) | exact HB.out))
    rintro e w28 ⟨rfl, hi, hb, hk⟩
    refine ⟨_, rfl, ?_⟩
    refine hK.out _ _ ?_
    refine done_ (by kernel_rfl) ?_
    clear hK K
    have n0_ := Aside0.mk (KeepBut.blk hk (g' := gb137) (o := .cells #[.int .i64 t135, .int .i64 t136, .int .i64 x138002_8] 66 (0, 0)) (by (with_reducible repeat (first | refine blk_drewN ?_ _ | refine blk_drew ?_ | refine blk_alloc ?_ _)); exact BK137.out) NB137_0.out (by simp))
    have n1_ := Aside0.mk (KeepBut.trans (by repeat (first | (with_reducible first | exact HK.out | apply KeepBut.set_ | apply keep_drewN | apply keep_drew | apply keep_alloc | refine keep_far ?_ GW137.out _) | exact HK.out)) hk (.inl rfl))
    have n2_ := Aside0.mk (hb)
    have n3_ := Aside0.mk (hi)
    clear BK137
    clear HK
    clear HB
    clear HI0
    have BK137 := n0_
    have HK := n1_
    have HB := n2_
    have HI0 := n3_
    clear n0_ n1_ n2_ n3_
    (try clear hb)
    (try clear hb2)
    (try clear hk)
    (try clear hi)
    try go_wp2
    have n0_ := Aside0.mk (blk_drew BK137.out)
    have n1_ := Aside0.mk (IsS63.drew HI0.out)
    have n2_ := Aside0.mk (keep_drew HK.out)
    have n3_ := Aside0.mk (below_drew1 HB.out)
    clear BK137
    clear HI0
    clear HK
    clear HB
    have BK137 := n0_
    have HI0 := n1_
    have HK := n2_
    have HB := n3_
    clear n0_ n1_ n2_ n3_
    refine start_ (n := 17) (S := fun w' => w'.cell? ⟨g, 0, none⟩ = some (.int .i64 t140) ∧ w'.cell? ⟨g, 1, none⟩ = some (.int .i64 t141) ∧ w'.cell? ⟨g, 2, none⟩ = some (.int .i64 t142) ∧ w'.cell? ⟨g, 3, none⟩ = some (.int .i64 t143) ∧ w'.cell? ⟨g, 4, none⟩ = some (.bool t144) ∧ w'.cell? ⟨g, 5, none⟩ = some (.int .i64 t145) ∧ w'.cell? ⟨g, 6, none⟩ = some (.int .i64 t146) ∧ w'.cell? ⟨g, 7, none⟩ = some (.bool t147) ∧ w'.cell? ⟨g, 8, none⟩ = some (.int .i64 t148)) (ds := [16]) #[false, false, false, false, false, false, false, false, false, false, false, false, false, false, false, false, false] (by kernel_rfl) rfl rfl ⟨(IsS63.cell_0 HI0.out), (IsS63.cell_1 HI0.out), (IsS63.cell_2 HI0.out), (IsS63.cell_3 HI0.out), (IsS63.cell_4 HI0.out), (IsS63.cell_5 HI0.out), (IsS63.cell_6 HI0.out), (IsS63.cell_7 HI0.out), (IsS63.cell_8 HI0.out)⟩ (fun hHeld => ?_); refine with_tabW aimd_Aimd_Update.tab14 aimd_Aimd_Update.bits14 (fun HT_ HW_ => ?_)
    generalize w28.drew = w29 at BK137 HI0 HK HB hHeld ⊢
    refine pure_ (i := 0) (N := some 72) (v := ?_) (a' := ?_) (bl 17 1) rfl rfl (any_of HT_.out (by kernel_rfl)) (fun _ _ _ h => h) (Or.inl ⟨by rfl, ?_⟩) ?_ ?_
    rotate_left
    ·intro w'
     go_simp
     with_reducible rfl
    rotate_left
    ·simp only [puts_]
     rfl
    refine pure_ (i := 1) (N := some 73) (v := ?_) (a' := ?_) (bl 17 3) rfl rfl (any_of HT_.out (by kernel_rfl)) (fun _ _ _ h => h) (Or.inl ⟨by rfl, ?_⟩) ?_ ?_
    rotate_left
    ·intro w'
     go_simp
     with_reducible rfl
    rotate_left
    ·simp only [puts_]
     rfl
    refine pure_ (i := 2) (N := some 74) (v := ?_) (a' := ?_) (bl 17 7) rfl rfl (any_of HT_.out (by kernel_rfl)) (fun _ _ _ h => h) (Or.inl ⟨by rfl, ?_⟩) ?_ ?_
    rotate_left
    ·intro w'
     go_simp
     with_reducible rfl
    rotate_left
    ·simp only [puts_]
     rfl
    refine pure_ (i := 3) (N := some 75) (v := ?_) (a' := ?_) (bl 17 15) rfl rfl (any_of HT_.out (by kernel_rfl)) (fun _ _ _ h => h) (Or.inl ⟨by rfl, ?_⟩) ?_ ?_
    rotate_left
    ·intro w'
     go_simp
     with_reducible rfl
    rotate_left
    ·simp only [puts_]
     rfl
    refine pure_ (i := 5) (N := some 77) (v := ?_) (a' := ?_) (bl 17 47) rfl rfl (any_of HT_.out (by kernel_rfl)) (fun _ _ _ h => h) (Or.inl ⟨by rfl, ?_⟩) ?_ ?_
    rotate_left
    ·intro w'
     go_simp
     with_reducible rfl
    rotate_left
    ·simp only [puts_]
     rfl
    refine pure_ (i := 6) (N := some 78) (v := ?_) (a' := ?_) (bl 17 111) rfl rfl (any_of HT_.out (by kernel_rfl)) (fun _ _ _ h => h) (Or.inl ⟨by rfl, ?_⟩) ?_ ?_
    rotate_left
    ·intro w'
     go_simp
     with_reducible rfl
    rotate_left
    ·simp only [puts_]
     rfl
    refine pure_ (i := 7) (N := some 79) (v := ?_) (a' := ?_) (bl 17 239) rfl rfl (any_of HT_.out (by kernel_rfl)) (fun _ _ _ h => h) (Or.inl ⟨by rfl, ?_⟩) ?_ ?_
    rotate_left
    ·intro w'
     go_simp
     with_reducible rfl
    rotate_left
    ·simp only [puts_]
     rfl
    refine pure_ (i := 9) (N := some 81) (v := ?_) (a' := ?_) (bl 17 751) rfl rfl (any_of HT_.out (by kernel_rfl)) (fun _ _ _ h => h) (Or.inl ⟨by rfl, ?_⟩) ?_ ?_
    rotate_left
    ·intro w'
     go_simp
     with_reducible rfl
    rotate_left
    ·simp only [puts_]
     rfl
    refine pure_ (i := 10) (N := some 82) (v := ?_) (a' := ?_) (bl 17 1775) rfl rfl (any_of HT_.out (by kernel_rfl)) (fun _ _ _ h => h) (Or.inl ⟨by rfl, ?_⟩) ?_ ?_
    rotate_left
    ·intro w'
     go_simp
     with_reducible rfl
    rotate_left
    ·simp only [puts_]
     rfl
    refine pure_ (i := 11) (N := some 83) (v := ?_) (a' := ?_) (bl 17 3823) rfl rfl (any_of HT_.out (by kernel_rfl)) (fun _ _ _ h => h) (Or.inl ⟨by rfl, ?_⟩) ?_ ?_
    rotate_left
    ·intro w'
     go_simp
     with_reducible rfl
    rotate_left
    ·simp only [puts_]
     rfl
    refine take_ (i := 4) (N := some 76) (v := ?_) (a' := ?_) (bl 17 3839) rfl rfl (take_ofW HT_.out HW_.out (by kernel_rfl)) (fun _ _ _ h => h) (Or.inl ⟨by rfl, ?_⟩) hHeld ?_ ?_
    rotate_left
    ·rintro w' ⟨s0, s1, s2, s3, s4, s5, s6, s7, s8⟩
     go_simp
     with_reducible rfl
    rotate_left
    ·simp only [puts_]
     rfl
    refine take_ (i := 8) (N := some 80) (v := ?_) (a' := ?_) (bl 17 4095) rfl rfl (take_ofW HT_.out HW_.out (by kernel_rfl)) (fun _ _ _ h => h) (Or.inl ⟨by rfl, ?_⟩) hHeld ?_ ?_
    rotate_left
    ·rintro w' ⟨s0, s1, s2, s3, s4, s5, s6, s7, s8⟩
     go_simp
     with_reducible rfl
    rotate_left
    ·simp only [puts_]
     rfl
    refine take_ (i := 12) (N := some 84) (v := ?_) (a' := ?_) (bl 17 8191) rfl rfl (take_ofW HT_.out HW_.out (by kernel_rfl)) (fun _ _ _ h => h) (Or.inl ⟨by rfl, ?_⟩) hHeld ?_ ?_
    rotate_left
    ·rintro w' ⟨s0, s1, s2, s3, s4, s5, s6, s7, s8⟩
     go_simp
     with_reducible rfl
    rotate_left
    ·simp only [puts_]
     rfl
    refine one_ (i := 13) (N := some 85) (bl 17 16383) rfl rfl (one_of HT_.out (by kernel_rfl)) (by decide) (fun K hK => ?_)
    refine goes_ Try.func36 (by kernel_rfl) rfl #[.int .i64 t140, .int .i64 t141, .int .i64 t142] (by rfl) rfl rfl (by (try simp only [List.map_toArray, List.map_cons, List.map_nil]); first | done | rfl | (simp only [List.length_drop, List.length_take]; rfl)) ?_
    with_reducible refine (sat_Clamp.calls t140 t141 t142 t149 _ A23.out).mono ?_
    rintro e w' ⟨rfl, ⟨nd, rfl⟩⟩
    refine ⟨_, rfl, ?_⟩
    refine hK.out _ _ ⟨(IsS63.cell_0 HI0.out), (IsS63.cell_1 HI0.out), (IsS63.cell_2 HI0.out), (IsS63.cell_3 HI0.out), (IsS63.cell_4 HI0.out), (IsS63.cell_5 HI0.out), (IsS63.cell_6 HI0.out), (IsS63.cell_7 HI0.out), (IsS63.cell_8 HI0.out)⟩ (fun hHeld => ?_)
    clear hK K
    refine norm_ (a' := ?_) ?_ ?_
    rotate_left
    ·show Act.put _ (some 85) _ = _
     simp only [puts_]
     rfl
    refine pure_ (i := 14) (N := some 86) (v := ?_) (a' := ?_) (bl 17 32767) rfl rfl (any_of HT_.out (by kernel_rfl)) (fun _ _ _ h => h) (Or.inl ⟨by rfl, ?_⟩) ?_ ?_
    rotate_left
    ·intro w'
     go_simp
     with_reducible rfl
    rotate_left
    ·simp only [puts_]
     rfl
    refine pure_ (i := 15) (N := some 87) (v := ?_) (a' := ?_) (bl 17 65535) rfl rfl (any_of HT_.out (by kernel_rfl)) (fun _ _ _ h => h) (Or.inl ⟨by rfl, ?_⟩) ?_ ?_
    rotate_left
    ·intro w'
     go_simp
     with_reducible rfl
    rotate_left
    ·simp only [puts_]
     rfl
    refine last_ (i := 16) (N := none) (bl 17 131071) rfl rfl (one_of HT_.out (by kernel_rfl)) (by decide) (fun K hK => ?_)
    have hs30 : w29.cell? ⟨g, 0, none⟩ = some (.int .i64 t140) := IsS63.cell_0 HI0.out
    have hfs30 := IsS63.froz_0 HI0.out
    have hns30_0 := NB137_0.out
    have hms30_0 := NB0_137.out
    refine skip_ (w1 := ?_) (by rfl) rfl ?_ ?_
    rotate_left
    ·go_simp
     rfl
    refine hK.out _ _ ?_
    clear hK K
    refine done_ (done_of HT_.out (by kernel_rfl)) ?_
    obtain ⟨HGz31, hgz31⟩ := HI0.out
    have hcz31_0 := cellS63_0 HGz31
    have hcz31_1 := cellS63_1 HGz31
    have hcz31_2 := cellS63_2 HGz31
    have hcz31_3 := cellS63_3 HGz31
    have hcz31_4 := cellS63_4 HGz31
    have hcz31_5 := cellS63_5 HGz31
    have hcz31_6 := cellS63_6 HGz31
    have hcz31_7 := cellS63_7 HGz31
    have hcz31_8 := cellS63_8 HGz31
    have hfz31_0 := blk_frozen HGz31 0
    have hfz31_1 := blk_frozen HGz31 1
    have hfz31_2 := blk_frozen HGz31 2
    have hfz31_3 := blk_frozen HGz31 3
    have hfz31_4 := blk_frozen HGz31 4
    have hfz31_5 := blk_frozen HGz31 5
    have hfz31_6 := blk_frozen HGz31 6
    have hfz31_7 := blk_frozen HGz31 7
    have hfz31_8 := blk_frozen HGz31 8
    clear HGz31 hgz31
    try go_wp2
    go_ret
    exact ⟨by first | rfl | (simp [errW_none, errW_some] <;> rfl) | (simp [*, errW_none, errW_some] <;> rfl), by repeat (first | (with_reducible first | exact HI0.out | apply IsS63.alloc | apply IsS63.drewN | apply IsS63.drew | apply IsS63.set_0 | apply IsS63.set_1 | apply IsS63.set_2 | apply IsS63.set_3 | apply IsS63.set_4 | apply IsS63.set_5 | apply IsS63.set_6 | apply IsS63.set_7 | apply IsS63.set_8 | refine IsS63.far ?_ NB0_137.out _) | exact HI0.out), by repeat (first | (with_reducible first | exact HB.out | apply below_alloc | apply pw_below_drewN | apply below_drew1 | refine below_set ?_ (IsS63.ge HI0.out) | refine below_set ?_ GE137.out) | exact HB.out), by repeat (first | (with_reducible first | exact HK.out | apply KeepBut.set_ | apply keep_drewN | apply keep_drew | apply keep_alloc | refine keep_far ?_ GW137.out _) | exact HK.out)⟩
   ·rw [if_neg c20] at H
    have c20b0 : (a1 == 1) = false := beq_eq_false_iff_ne.mpr c20
    have c20b1 : (a1 != 1) = true := bne_iff_ne.mpr c20
    by_cases c32 : a1 = 2
    ·rw [if_pos c32] at H
     have c32b0 : (a1 == 2) = true := beq_iff_eq.mpr c32
     have c32b1 : (a1 != 2) = false := bne_eq_false_iff_eq.mpr c32
     clear c32
     replace H := Option.bind_eq_some_iff.mp H
     obtain ⟨t150, A330, H⟩ := H
     replace H : ((aimd_Aimd_hold.f s0_0 s0_1 s0_2 0 s0_4 s0_5 s0_6 true t134 t135 t136 x138002_8).bind fun bt151 => ((sat_Clamp.f bt151.1 bt151.2.1 bt151.2.2.1).bind fun t160 => (some (t160, t160, bt151.2.1, bt151.2.2.1, bt151.2.2.2.1, bt151.2.2.2.2.1, bt151.2.2.2.2.2.1, bt151.2.2.2.2.2.2.1, bt151.2.2.2.2.2.2.2.1, bt151.2.2.2.2.2.2.2.2)))) = some (r1, r2, r3, r4, r5, r6, r7, r8, r9, r10) := H
     have A33 := Aside0.mk A330
     clear A330
     replace H := Option.bind_eq_some_iff.mp H
     obtain ⟨⟨t151, t152, t153, t154, t155, t156, t157, t158, t159⟩, A340, H⟩ := H
     replace H : ((sat_Clamp.f t151 t152 t153).bind fun t160 => (some (t160, t160, t152, t153, t154, t155, t156, t157, t158, t159))) = some (r1, r2, r3, r4, r5, r6, r7, r8, r9, r10) := H
     have A34 := Aside0.mk A340
     clear A340
     replace H := Option.bind_eq_some_iff.mp H
     obtain ⟨t160, A350, H⟩ := H
     replace H : (some (t160, t160, t152, t153, t154, t155, t156, t157, t158, t159)) = some (r1, r2, r3, r4, r5, r6, r7, r8, r9, r10) := H
     have A35 := Aside0.mk A350
     clear A350
     simp only [Option.some.injEq, Prod.mk.injEq] at H
     obtain ⟨rfl, rfl, rfl, rfl, rfl, rfl, rfl, rfl, rfl, rfl⟩ := H
     obtain ⟨HGz36, hgz36⟩ := HI0.out
     have hcz36_0 := cellS63_0 HGz36
     have hcz36_1 := cellS63_1 HGz36
     have hcz36_2 := cellS63_2 HGz36
     have hcz36_3 := cellS63_3 HGz36
     have hcz36_4 := cellS63_4 HGz36
     have hcz36_5 := cellS63_5 HGz36
     have hcz36_6 := cellS63_6 HGz36
     have hcz36_7 := cellS63_7 HGz36
     have hcz36_8 := cellS63_8 HGz36
     have hfz36_0 := blk_frozen HGz36 0
     have hfz36_1 := blk_frozen HGz36 1
     have hfz36_2 := blk_frozen HGz36 2
     have hfz36_3 := blk_frozen HGz36 3
     have hfz36_4 := blk_frozen HGz36 4
     have hfz36_5 := blk_frozen HGz36 5
     have hfz36_6 := blk_frozen HGz36 6
     have hfz36_7 := blk_frozen HGz36 7
     have hfz36_8 := blk_frozen HGz36 8
     clear HGz36 hgz36
     have hnb37 := NB137_0.out
     have hnc37 := NB0_137.out
     have hcz38_0 : wc.cell? ⟨gb137, 0, none⟩ = some (.int .i64 t135) := (blk_cell BK137.out 0).trans rfl
     have hcz38_1 : wc.cell? ⟨gb137, 1, none⟩ = some (.int .i64 t136) := (blk_cell BK137.out 1).trans rfl
     have hcz38_2 : wc.cell? ⟨gb137, 2, none⟩ = some (.int .i64 x138002_8) := (blk_cell BK137.out 2).trans rfl
     have hfz38_0 := blk_frozen BK137.out 0
     have hfz38_1 := blk_frozen BK137.out 1
     have hfz38_2 := blk_frozen BK137.out 2
     try go_wp2
     refine named_ ?_
     intro W_ hW_
     have hS_ : IsS63 w0 W_ g s0_0 s0_1 s0_2 0 s0_4 s0_5 s0_6 true t134 := by rw [hW_]; exact by repeat (first | (with_reducible first | exact HI0.out | apply IsS63.alloc | apply IsS63.drewN | apply IsS63.drew | apply IsS63.set_0 | apply IsS63.set_1 | apply IsS63.set_2 | apply IsS63.set_3 | apply IsS63.set_4 | apply IsS63.set_5 | apply IsS63.set_6 | apply IsS63.set_7 | apply IsS63.set_8 | refine IsS63.far ?_ NB0_137.out _) | exact HI0.out)
     have hX0_ : W_.heap[gb137]? = some (.cells #[.int .i64 t135, .int .i64 t136, .int .i64 x138002_8] 66 (0, 0)) := by rw [hW_]; exact (by (with_reducible repeat (first | refine blk_drewN ?_ _ | refine blk_drew ?_ | refine blk_alloc ?_ _)); refine blk_far ?_ NB137_0.out _; (with_reducible repeat (first | refine blk_drewN ?_ _ | refine blk_drew ?_ | refine blk_alloc ?_ _)); refine blk_far ?_ NB137_0.out _; (with_reducible repeat (first | refine blk_drewN ?_ _ | refine blk_drew ?_ | refine blk_alloc ?_ _)); refine blk_far ?_ NB137_0.out _; (with_reducible repeat (first | refine blk_drewN ?_ _ | refine blk_drew ?_ | refine blk_alloc ?_ _)); exact BK137.out)
     refine start_ (n := 13) (S := fun w' => Below W_.heap.size W_ w') (ds := [12]) #[false, false, false, false, false, false, false, false, false, false, false, false, false] (by kernel_rfl) rfl rfl (below_drew1 (Below.refl _ _)) (fun hHeld => ?_)
     refine pure_ (i := 5) (N := some 64) (v := ?_) (a' := ?_) (bl 13 32) rfl rfl (by kernel_rfl) (fun _ _ _ h => h) (Or.inl ⟨by rfl, ?_⟩) ?_ ?_
     rotate_left
     ·intro w'
      go_simp
      with_reducible rfl
     rotate_left
     ·simp only [puts_]
      rfl
     refine pure_ (i := 6) (N := some 65) (v := ?_) (a' := ?_) (bl 13 96) rfl rfl (by kernel_rfl) (fun _ _ _ h => h) (Or.inl ⟨by rfl, ?_⟩) ?_ ?_
     rotate_left
     ·intro w'
      go_simp
      with_reducible rfl
     rotate_left
     ·simp only [puts_]
      rfl
     refine pure_ (i := 7) (N := some 66) (v := ?_) (a' := ?_) (bl 13 224) rfl rfl (by kernel_rfl) (fun _ _ _ h => h) (Or.inl ⟨by rfl, ?_⟩) ?_ ?_
     rotate_left
     ·intro w'
      go_simp
      with_reducible rfl
     rotate_left
     ·simp only [puts_]
      rfl
     refine take_ (i := 8) (N := some 67) (v := ?_) (a' := ?_) (bl 13 480) rfl rfl (by kernel_rfl) (fun _ _ _ h => h) (Or.inl ⟨by rfl, ?_⟩) hHeld ?_ ?_
     rotate_left
     ·intro w' hw'
      have cb0_ := pw_cell_below hw' (IsS63.cell_3 hS_)
      have cb1_ := pw_cell_below hw' (show W_.cell? ⟨gb137, 0, none⟩ = some (.int .i64 t135) from (blk_cell hX0_ 0).trans rfl)
      have cb2_ := pw_cell_below hw' (show W_.cell? ⟨gb137, 1, none⟩ = some (.int .i64 t136) from (blk_cell hX0_ 1).trans rfl)
      have cb3_ := pw_cell_below hw' (show W_.cell? ⟨gb137, 2, none⟩ = some (.int .i64 x138002_8) from (blk_cell hX0_ 2).trans rfl)
      go_simp
      with_reducible rfl
     rotate_left
     ·simp only [puts_]
      rfl
     refine pure_ (i := 10) (N := some 69) (v := ?_) (a' := ?_) (bl 13 1504) rfl rfl (by kernel_rfl) (fun _ _ _ h => h) (Or.inl ⟨by rfl, ?_⟩) ?_ ?_
     rotate_left
     ·intro w'
      go_simp
      with_reducible rfl
     rotate_left
     ·simp only [puts_]
      rfl
     refine take_ (i := 11) (N := some 70) (v := ?_) (a' := ?_) (bl 13 3552) rfl rfl (by kernel_rfl) (fun _ _ _ h => h) (Or.inl ⟨by rfl, ?_⟩) hHeld ?_ ?_
     rotate_left
     ·intro w' hw'
      have cb0_ := pw_cell_below hw' (IsS63.cell_3 hS_)
      have cb1_ := pw_cell_below hw' (show W_.cell? ⟨gb137, 0, none⟩ = some (.int .i64 t135) from (blk_cell hX0_ 0).trans rfl)
      have cb2_ := pw_cell_below hw' (show W_.cell? ⟨gb137, 1, none⟩ = some (.int .i64 t136) from (blk_cell hX0_ 1).trans rfl)
      have cb3_ := pw_cell_below hw' (show W_.cell? ⟨gb137, 2, none⟩ = some (.int .i64 x138002_8) from (blk_cell hX0_ 2).trans rfl)
      go_simp
      with_reducible rfl
     rotate_left
     ·simp only [puts_]
      rfl
     refine one_ (i := 0) (N := some 62) (bl 13 3553) rfl rfl (by kernel_rfl) (by decide) (fun K hK => ?_)
     refine value_ (w1 := W_.drew.alloc (.map #[] 0)) (v := .map (some W_.drew.heap.size)) (by rfl) rfl (by rfl) ?_
     refine hK.out _ _ (below_alloc (below_drew1 (Below.refl _ _)) _) (fun hHeld => ?_)
     clear hK K
     refine norm_ (a' := ?_) ?_ ?_
     rotate_left
     ·show Act.put _ (some 62) _ = _
      simp only [puts_]
      rfl
     have hM0_ : FMap W_ (W_.drew.alloc (.map #[] 0)) W_.drew.heap.size [] := FMap.made (below_drew1 (Below.refl _ _))
     generalize hW0_ : W_.drew.alloc (.map #[] 0) = W0_ at hM0_ hHeld ⊢
     clear hW0_
     generalize hm_ : W_.drew.heap.size = m_ at hM0_ ⊢
     clear hm_
     refine join_ (σ := Unit) 3 #[true, true, true, true, false, true, true, true, true, false, true, true, false] (fun _ => []) (fun _ w' => ∃ l, FMap W_ w' m_ l ∧ l.find? (fun p => (0 : Int) == p.1) = some (0, 37)) ?_ ?_
     rotate_left
     ·intro hJ_
      refine three_ (i := 1) (j := 2) (k := 3) (Ni := none) (Nj := none) (Nk := none) (bl 13 3555) (bl 13 3557) (bl 13 3561) rfl rfl rfl rfl rfl rfl (by kernel_rfl) (by decide) (by decide) (by decide) ?_ ?_ ?_
      ·intro K hK
       obtain ⟨W1_, hr1_, hM1_⟩ := FMap.ins (P := Try.prog) Try.underlying69 Try.underlying3 hM0_ 0 37 (by decide)
       refine skip_ (w1 := W1_) (by rfl) rfl ?_ ?_
       ·exact ins_skip rfl hr1_
       refine hK.out _ _ hM1_.bel (fun hHeld => ?_)
       clear hK K
       refine two_ (i := 2) (j := 3) (Ni := none) (Nj := none) (bl 13 3559) (bl 13 3563) rfl rfl rfl rfl (by kernel_rfl) (by decide) (by decide) ?_ ?_
       ·intro K hK
        obtain ⟨W2_, hr2_, hM2_⟩ := FMap.ins (P := Try.prog) Try.underlying69 Try.underlying3 hM1_ 1 38 (by decide)
        refine skip_ (w1 := W2_) (by rfl) rfl ?_ ?_
        ·exact ins_skip rfl hr2_
        refine hK.out _ _ hM2_.bel (fun hHeld => ?_)
        clear hK K
        refine one_ (i := 3) (N := none) (bl 13 3567) rfl rfl (by kernel_rfl) (by decide) ?_
        ·intro K hK
         obtain ⟨W3_, hr3_, hM3_⟩ := FMap.ins (P := Try.prog) Try.underlying69 Try.underlying3 hM2_ 2 39 (by decide)
         refine skip_ (w1 := W3_) (by rfl) rfl ?_ ?_
         ·exact ins_skip rfl hr3_
         refine hK.out _ _ hM3_.bel (fun hHeld => ?_)
         clear hK K
         exact hJ_ () _ ⟨_, hM3_, by decide⟩
       ·intro K hK
        obtain ⟨W2_, hr2_, hM2_⟩ := FMap.ins (P := Try.prog) Try.underlying69 Try.underlying3 hM1_ 2 39 (by decide)
        refine skip_ (w1 := W2_) (by rfl) rfl ?_ ?_
        ·exact ins_skip rfl hr2_
        refine hK.out _ _ hM2_.bel (fun hHeld => ?_)
        clear hK K
        refine one_ (i := 2) (N := none) (bl 13 3567) rfl rfl (by kernel_rfl) (by decide) ?_
        ·intro K hK
         obtain ⟨W3_, hr3_, hM3_⟩ := FMap.ins (P := Try.prog) Try.underlying69 Try.underlying3 hM2_ 1 38 (by decide)
         refine skip_ (w1 := W3_) (by rfl) rfl ?_ ?_
         ·exact ins_skip rfl hr3_
         refine hK.out _ _ hM3_.bel (fun hHeld => ?_)
         clear hK K
         exact hJ_ () _ ⟨_, hM3_, by decide⟩
      ·intro K hK
       obtain ⟨W1_, hr1_, hM1_⟩ := FMap.ins (P := Try.prog) Try.underlying69 Try.underlying3 hM0_ 1 38 (by decide)
       refine skip_ (w1 := W1_) (by rfl) rfl ?_ ?_
       ·exact ins_skip rfl hr1_
       refine hK.out _ _ hM1_.bel (fun hHeld => ?_)
       clear hK K
       refine two_ (i := 1) (j := 3) (Ni := none) (Nj := none) (bl 13 3559) (bl 13 3565) rfl rfl rfl rfl (by kernel_rfl) (by decide) (by decide) ?_ ?_
       ·intro K hK
        obtain ⟨W2_, hr2_, hM2_⟩ := FMap.ins (P := Try.prog) Try.underlying69 Try.underlying3 hM1_ 0 37 (by decide)
        refine skip_ (w1 := W2_) (by rfl) rfl ?_ ?_
        ·exact ins_skip rfl hr2_
        refine hK.out _ _ hM2_.bel (fun hHeld => ?_)
        clear hK K
        refine one_ (i := 3) (N := none) (bl 13 3567) rfl rfl (by kernel_rfl) (by decide) ?_
        ·intro K hK
         obtain ⟨W3_, hr3_, hM3_⟩ := FMap.ins (P := Try.prog) Try.underlying69 Try.underlying3 hM2_ 2 39 (by decide)
         refine skip_ (w1 := W3_) (by rfl) rfl ?_ ?_
         ·exact ins_skip rfl hr3_
         refine hK.out _ _ hM3_.bel (fun hHeld => ?_)
         clear hK K
         exact hJ_ () _ ⟨_, hM3_, by decide⟩
       ·intro K hK
        obtain ⟨W2_, hr2_, hM2_⟩ := FMap.ins (P := Try.prog) Try.underlying69 Try.underlying3 hM1_ 2 39 (by decide)
        refine skip_ (w1 := W2_) (by rfl) rfl ?_ ?_
        ·exact ins_skip rfl hr2_
        refine hK.out _ _ hM2_.bel (fun hHeld => ?_)
        clear hK K
        refine one_ (i := 1) (N := none) (bl 13 3567) rfl rfl (by kernel_rfl) (by decide) ?_
        ·intro K hK
         obtain ⟨W3_, hr3_, hM3_⟩ := FMap.ins (P := Try.prog) Try.underlying69 Try.underlying3 hM2_ 0 37 (by decide)
         refine skip_ (w1 := W3_) (by rfl) rfl ?_ ?_
         ·exact ins_skip rfl hr3_
         refine hK.out _ _ hM3_.bel (fun hHeld => ?_)
         clear hK K
         exact hJ_ () _ ⟨_, hM3_, by decide⟩
      ·intro K hK
       obtain ⟨W1_, hr1_, hM1_⟩ := FMap.ins (P := Try.prog) Try.underlying69 Try.underlying3 hM0_ 2 39 (by decide)
       refine skip_ (w1 := W1_) (by rfl) rfl ?_ ?_
       ·exact ins_skip rfl hr1_
       refine hK.out _ _ hM1_.bel (fun hHeld => ?_)
       clear hK K
       refine two_ (i := 1) (j := 2) (Ni := none) (Nj := none) (bl 13 3563) (bl 13 3565) rfl rfl rfl rfl (by kernel_rfl) (by decide) (by decide) ?_ ?_
       ·intro K hK
        obtain ⟨W2_, hr2_, hM2_⟩ := FMap.ins (P := Try.prog) Try.underlying69 Try.underlying3 hM1_ 0 37 (by decide)
        refine skip_ (w1 := W2_) (by rfl) rfl ?_ ?_
        ·exact ins_skip rfl hr2_
        refine hK.out _ _ hM2_.bel (fun hHeld => ?_)
        clear hK K
        refine one_ (i := 2) (N := none) (bl 13 3567) rfl rfl (by kernel_rfl) (by decide) ?_
        ·intro K hK
         obtain ⟨W3_, hr3_, hM3_⟩ := FMap.ins (P := Try.prog) Try.underlying69 Try.underlying3 hM2_ 1 38 (by decide)
         refine skip_ (w1 := W3_) (by rfl) rfl ?_ ?_
         ·exact ins_skip rfl hr3_
         refine hK.out _ _ hM3_.bel (fun hHeld => ?_)
         clear hK K
         exact hJ_ () _ ⟨_, hM3_, by decide⟩
       ·intro K hK
        obtain ⟨W2_, hr2_, hM2_⟩ := FMap.ins (P := Try.prog) Try.underlying69 Try.underlying3 hM1_ 1 38 (by decide)
        refine skip_ (w1 := W2_) (by rfl) rfl ?_ ?_
        ·exact ins_skip rfl hr2_
        refine hK.out _ _ hM2_.bel (fun hHeld => ?_)
        clear hK K
        refine one_ (i := 1) (N := none) (bl 13 3567) rfl rfl (by kernel_rfl) (by decide) ?_
        ·intro K hK
         obtain ⟨W3_, hr3_, hM3_⟩ := FMap.ins (P := Try.prog) Try.underlying69 Try.underlying3 hM2_ 0 37 (by decide)
         refine skip_ (w1 := W3_) (by rfl) rfl ?_ ?_
         ·exact ins_skip rfl hr3_
         refine hK.out _ _ hM3_.bel (fun hHeld => ?_)
         clear hK K
         exact hJ_ () _ ⟨_, hM3_, by decide⟩
     rintro _ w39 ⟨l_, hM_, hf_⟩
     dsimp only [putAll]
     have hHeld := hM_.bel
     refine pure_ (i := 4) (N := some 63) (v := ?_) (a' := ?_) (bl 13 3583) rfl rfl (by kernel_rfl) (fun _ _ _ h => h) (Or.inl ⟨by rfl, ?_⟩) ?_ ?_
     rotate_left
     ·intro w'
      go_simp
      with_reducible rfl
     rotate_left
     ·simp only [puts_]
      rfl
     refine one_ (i := 9) (N := some 68) (bl 13 4095) rfl rfl (by kernel_rfl) (by decide) (fun K hK => ?_)
     refine value_ (w1 := w39) (v := fnv 37) (by rfl) rfl ?_ ?_
     ·have hl_ := FMap.look (P := Try.prog) Try.underlying69 Try.underlying3 hM_ 0 37 hf_
      exact look_val rfl hl_
     refine hK.out _ _ hM_.bel (fun hHeld => ?_)
     clear hK K
     refine norm_ (a' := ?_) ?_ ?_
     rotate_left
     ·show Act.put _ (some 68) _ = _
      simp only [puts_]
      rfl
     refine last_ (i := 12) (N := some 71) (bl 13 8191) rfl rfl (by kernel_rfl) (by decide) (fun K hK => ?_)
     refine call_ 37 #[.pointer (some ⟨g, 0, none⟩), .agg #[.int .i64 t135, .int .i64 t136, .int .i64 x138002_8]] (by rfl) rfl ?_ ?_
     ·simp [execOp, resolve, Deferred.ofValue, invoke, Act.eval, fnv, enters_ (P := Try.prog) (fn := Try.f37) Try.func37 (by kernel_rfl) rfl]
     have hb := hM_.bel
     clear hM_ hHeld hf_ hS_ hX0_
     subst hW_
     have n0_ := Aside0.mk (blk_below (g := gb137) (o := .cells #[.int .i64 t135, .int .i64 t136, .int .i64 x138002_8] 66 (0, 0)) (by (with_reducible repeat (first | refine blk_drewN ?_ _ | refine blk_drew ?_ | refine blk_alloc ?_ _)); refine blk_far ?_ NB137_0.out _; (with_reducible repeat (first | refine blk_drewN ?_ _ | refine blk_drew ?_ | refine blk_alloc ?_ _)); refine blk_far ?_ NB137_0.out _; (with_reducible repeat (first | refine blk_drewN ?_ _ | refine blk_drew ?_ | refine blk_alloc ?_ _)); refine blk_far ?_ NB137_0.out _; (with_reducible repeat (first | refine blk_drewN ?_ _ | refine blk_drew ?_ | refine blk_alloc ?_ _)); exact BK137.out) hb)
     have n1_ := Aside0.mk (IsS63.below (show IsS63 w0 (((wc.setCell ⟨g, 7, none⟩ (.bool true)).setCell ⟨g, 8, none⟩ (.int .i64 t134)).setCell ⟨g, 3, none⟩ (.int .i64 0)) g s0_0 s0_1 s0_2 0 s0_4 s0_5 s0_6 true t134 from by repeat (first | (with_reducible first | exact HI0.out | apply IsS63.alloc | apply IsS63.drewN | apply IsS63.drew | apply IsS63.set_0 | apply IsS63.set_1 | apply IsS63.set_2 | apply IsS63.set_3 | apply IsS63.set_4 | apply IsS63.set_5 | apply IsS63.set_6 | apply IsS63.set_7 | apply IsS63.set_8 | refine IsS63.far ?_ NB0_137.out _) | exact HI0.out)) hb)
     have n2_ := Aside0.mk (KeepBut.trans (by repeat (first | (with_reducible first | exact HK.out | apply KeepBut.set_ | apply keep_drewN | apply keep_drew | apply keep_alloc | refine keep_far ?_ GW137.out _) | exact HK.out)) (KeepBut.of_below hb g none) (.inl rfl))
     have n3_ := Aside0.mk (below_step (by repeat (first | (with_reducible first | exact HB.out | apply below_alloc | apply pw_below_drewN | apply below_drew1 | refine below_set ?_ (IsS63.ge HI0.out) | refine below_set ?_ GE137.out) | exact HB.out)) hb)
     clear BK137
     clear HI0
     clear HK
     clear HB
     have BK137 := n0_
     have HI0 := n1_
     have HK := n2_
     have HB := n3_
     clear n0_ n1_ n2_ n3_
     (try clear hb)
     (try clear hb2)
     (try clear hk)
     (try clear hi)
     (with_reducible refine (aimd_Aimd_hold.calls g s0_0 s0_1 s0_2 0 s0_4 s0_5 s0_6 true t134 t135 t136 x138002_8 t151 t152 t153 t154 t155 t156 t157 t158 t159 w0 _ ?side1 ?side2 A34.out).mono ?_)
     (case side1 => repeat (first | (with_reducible first | exact HI0.out | apply IsS63.alloc | apply IsS63.drewN | apply IsS63.drew | apply IsS63.set_0 | apply IsS63.set_1 | apply IsS63.set_2 | apply IsS63.set_3 | apply IsS63.set_4 | apply IsS63.set_5 | apply IsS63.set_6 | apply IsS63.set_7 | apply IsS63.set_8 | refine IsS63.far ?_ NB0_137.out _) | exact HI0.out))
     (case side2 => repeat (first | (with_reducible first | exact HB.out | apply below_alloc | apply pw_below_drewN | apply below_drew1 | refine below_set ?_ (IsS63.ge HI0.out) | refine below_set ?_ GE137.out) | exact HB.out))
     rintro e w40 ⟨rfl, hi, hb, hk⟩
     refine ⟨_, rfl, ?_⟩
     refine hK.out _ _ ?_
     refine done_ (by kernel_rfl) ?_
     clear hK K
     have n0_ := Aside0.mk (KeepBut.blk hk (g' := gb137) (o := .cells #[.int .i64 t135, .int .i64 t136, .int .i64 x138002_8] 66 (0, 0)) (by (with_reducible repeat (first | refine blk_drewN ?_ _ | refine blk_drew ?_ | refine blk_alloc ?_ _)); exact BK137.out) NB137_0.out (by simp))
     have n1_ := Aside0.mk (KeepBut.trans (by repeat (first | (with_reducible first | exact HK.out | apply KeepBut.set_ | apply keep_drewN | apply keep_drew | apply keep_alloc | refine keep_far ?_ GW137.out _) | exact HK.out)) hk (.inl rfl))
     have n2_ := Aside0.mk (hb)
     have n3_ := Aside0.mk (hi)
     clear BK137
     clear HK
     clear HB
     clear HI0
     have BK137 := n0_
     have HK := n1_
     have HB := n2_
     have HI0 := n3_
     clear n0_ n1_ n2_ n3_
     (try clear hb)
     (try clear hb2)
     (try clear hk)
     (try clear hi)
     try go_wp2
     have n0_ := Aside0.mk (blk_drew BK137.out)
     have n1_ := Aside0.mk (IsS63.drew HI0.out)
     have n2_ := Aside0.mk (keep_drew HK.out)
     have n3_ := Aside0.mk (below_drew1 HB.out)
     clear BK137
     clear HI0
     clear HK
     clear HB
     have BK137 := n0_
     have HI0 := n1_
     have HK := n2_
     have HB := n3_
     clear n0_ n1_ n2_ n3_
     refine start_ (n := 17) (S := fun w' => w'.cell? ⟨g, 0, none⟩ = some (.int .i64 t151) ∧ w'.cell? ⟨g, 1, none⟩ = some (.int .i64 t152) ∧ w'.cell? ⟨g, 2, none⟩ = some (.int .i64 t153) ∧ w'.cell? ⟨g, 3, none⟩ = some (.int .i64 t154) ∧ w'.cell? ⟨g, 4, none⟩ = some (.bool t155) ∧ w'.cell? ⟨g, 5, none⟩ = some (.int .i64 t156) ∧ w'.cell? ⟨g, 6, none⟩ = some (.int .i64 t157) ∧ w'.cell? ⟨g, 7, none⟩ = some (.bool t158) ∧ w'.cell? ⟨g, 8, none⟩ = some (.int .i64 t159)) (ds := [16]) #[false, false, false, false, false, false, false, false, false, false, false, false, false, false, false, false, false] (by kernel_rfl) rfl rfl ⟨(IsS63.cell_0 HI0.out), (IsS63.cell_1 HI0.out), (IsS63.cell_2 HI0.out), (IsS63.cell_3 HI0.out), (IsS63.cell_4 HI0.out), (IsS63.cell_5 HI0.out), (IsS63.cell_6 HI0.out), (IsS63.cell_7 HI0.out), (IsS63.cell_8 HI0.out)⟩ (fun hHeld => ?_); refine with_tabW aimd_Aimd_Update.tab14 aimd_Aimd_Update.bits14 (fun HT_ HW_ => ?_)
     generalize w40.drew = w41 at BK137 HI0 HK HB hHeld ⊢
     refine pure_ (i := 0) (N := some 72) (v := ?_) (a' := ?_) (bl 17 1) rfl rfl (any_of HT_.out (by kernel_rfl)) (fun _ _ _ h => h) (Or.inl ⟨by rfl, ?_⟩) ?_ ?_
     rotate_left
     ·intro w'
      go_simp
      with_reducible rfl
     rotate_left
     ·simp only [puts_]
      rfl
     refine pure_ (i := 1) (N := some 73) (v := ?_) (a' := ?_) (bl 17 3) rfl rfl (any_of HT_.out (by kernel_rfl)) (fun _ _ _ h => h) (Or.inl ⟨by rfl, ?_⟩) ?_ ?_
     rotate_left
     ·intro w'
      go_simp
      with_reducible rfl
     rotate_left
     ·simp only [puts_]
      rfl
     refine pure_ (i := 2) (N := some 74) (v := ?_) (a' := ?_) (bl 17 7) rfl rfl (any_of HT_.out (by kernel_rfl)) (fun _ _ _ h => h) (Or.inl ⟨by rfl, ?_⟩) ?_ ?_
     rotate_left
     ·intro w'
      go_simp
      with_reducible rfl
     rotate_left
     ·simp only [puts_]
      rfl
     refine pure_ (i := 3) (N := some 75) (v := ?_) (a' := ?_) (bl 17 15) rfl rfl (any_of HT_.out (by kernel_rfl)) (fun _ _ _ h => h) (Or.inl ⟨by rfl, ?_⟩) ?_ ?_
     rotate_left
     ·intro w'
      go_simp
      with_reducible rfl
     rotate_left
     ·simp only [puts_]
      rfl
     refine pure_ (i := 5) (N := some 77) (v := ?_) (a' := ?_) (bl 17 47) rfl rfl (any_of HT_.out (by kernel_rfl)) (fun _ _ _ h => h) (Or.inl ⟨by rfl, ?_⟩) ?_ ?_
     rotate_left
     ·intro w'
      go_simp
      with_reducible rfl
     rotate_left
     ·simp only [puts_]
      rfl
     refine pure_ (i := 6) (N := some 78) (v := ?_) (a' := ?_) (bl 17 111) rfl rfl (any_of HT_.out (by kernel_rfl)) (fun _ _ _ h => h) (Or.inl ⟨by rfl, ?_⟩) ?_ ?_
     rotate_left
     ·intro w'
      go_simp
      with_reducible rfl
     rotate_left
     ·simp only [puts_]
      rfl
     refine pure_ (i := 7) (N := some 79) (v := ?_) (a' := ?_) (bl 17 239) rfl rfl (any_of HT_.out (by kernel_rfl)) (fun _ _ _ h => h) (Or.inl ⟨by rfl, ?_⟩) ?_ ?_
     rotate_left
     ·intro w'
      go_simp
      with_reducible rfl
     rotate_left
     ·simp only [puts_]
      rfl
     refine pure_ (i := 9) (N := some 81) (v := ?_) (a' := ?_) (bl 17 751) rfl rfl (any_of HT_.out (by kernel_rfl)) (fun _ _ _ h => h) (Or.inl ⟨by rfl, ?_⟩) ?_ ?_
     rotate_left
     ·intro w'
      go_simp
      with_reducible rfl
     rotate_left
     ·simp only [puts_]
      rfl
     refine pure_ (i := 10) (N := some 82) (v := ?_) (a' := ?_) (bl 17 1775) rfl rfl (any_of HT_.out (by kernel_rfl)) (fun _ _ _ h => h) (Or.inl ⟨by rfl, ?_⟩) ?_ ?_
     rotate_left
     ·intro w'
      go_simp
      with_reducible rfl
     rotate_left
     ·simp only [puts_]
      rfl
     refine pure_ (i := 11) (N := some 83) (v := ?_) (a' := ?_) (bl 17 3823) rfl rfl (any_of HT_.out (by kernel_rfl)) (fun _ _ _ h => h) (Or.inl ⟨by rfl, ?_⟩) ?_ ?_
     rotate_left
     ·intro w'
      go_simp
      with_reducible rfl
     rotate_left
     ·simp only [puts_]
      rfl
     refine take_ (i := 4) (N := some 76) (v := ?_) (a' := ?_) (bl 17 3839) rfl rfl (take_ofW HT_.out HW_.out (by kernel_rfl)) (fun _ _ _ h => h) (Or.inl ⟨by rfl, ?_⟩) hHeld ?_ ?_
     rotate_left
     ·rintro w' ⟨s0, s1, s2, s3, s4, s5, s6, s7, s8⟩
      go_simp
      with_reducible rfl
     rotate_left
     ·simp only [puts_]
      rfl
     refine take_ (i := 8) (N := some 80) (v := ?_) (a' := ?_) (bl 17 4095) rfl rfl (take_ofW HT_.out HW_.out (by kernel_rfl)) (fun _ _ _ h => h) (Or.inl ⟨by rfl, ?_⟩) hHeld ?_ ?_
     rotate_left
     ·rintro w' ⟨s0, s1, s2, s3, s4, s5, s6, s7, s8⟩
      go_simp
      with_reducible rfl
     rotate_left
     ·simp only [puts_]
      rfl
     refine take_ (i := 12) (N := some 84) (v := ?_) (a' := ?_) (bl 17 8191) rfl rfl (take_ofW HT_.out HW_.out (by kernel_rfl)) (fun _ _ _ h => h) (Or.inl ⟨by rfl, ?_⟩) hHeld ?_ ?_
     rotate_left
     ·rintro w' ⟨s0, s1, s2, s3, s4, s5, s6, s7, s8⟩
      go_simp
      with_reducible rfl
     rotate_left
     ·simp only [puts_]
      rfl
     refine one_ (i := 13) (N := some 85) (bl 17 16383) rfl rfl (one_of HT_.out (by kernel_rfl)) (by decide) (fun K hK => ?_)
     refine goes_ Try.func36 (by kernel_rfl) rfl #[.int .i64 t151, .int .i64 t152, .int .i64 t153] (by rfl) rfl rfl (by (try simp only [List.map_toArray, List.map_cons, List.map_nil]); first | done | rfl | (simp only [List.length_drop, List.length_take]; rfl)) ?_
     with_reducible refine (sat_Clamp.calls t151 t152 t153 t160 _ A35.out).mono ?_
     rintro e w' ⟨rfl, ⟨nd, rfl⟩⟩
     refine ⟨_, rfl, ?_⟩
     refine hK.out _ _ ⟨(IsS63.cell_0 HI0.out), (IsS63.cell_1 HI0.out), (IsS63.cell_2 HI0.out), (IsS63.cell_3 HI0.out), (IsS63.cell_4 HI0.out), (IsS63.cell_5 HI0.out), (IsS63.cell_6 HI0.out), (IsS63.cell_7 HI0.out), (IsS63.cell_8 HI0.out)⟩ (fun hHeld => ?_)
     clear hK K
     refine norm_ (a' := ?_) ?_ ?_
     rotate_left
     ·show Act.put _ (some 85) _ = _
      simp only [puts_]
      rfl
     refine pure_ (i := 14) (N := some 86) (v := ?_) (a' := ?_) (bl 17 32767) rfl rfl (any_of HT_.out (by kernel_rfl)) (fun _ _ _ h => h) (Or.inl ⟨by rfl, ?_⟩) ?_ ?_
     rotate_left
     ·intro w'
      go_simp
      with_reducible rfl
     rotate_left
     ·simp only [puts_]
      rfl
     refine pure_ (i := 15) (N := some 87) (v := ?_) (a' := ?_) (bl 17 65535) rfl rfl (any_of HT_.out (by kernel_rfl)) (fun _ _ _ h => h) (Or.inl ⟨by rfl, ?_⟩) ?_ ?_
     rotate_left
     ·intro w'
      go_simp
      with_reducible rfl
     rotate_left
     ·simp only [puts_]
      rfl
     refine last_ (i := 16) (N := none) (bl 17 131071) rfl rfl (one_of HT_.out (by kernel_rfl)) (by decide) (fun K hK => ?_)
     have hs42 : w41.cell? ⟨g, 0, none⟩ = some (.int .i64 t151) := IsS63.cell_0 HI0.out
     have hfs42 := IsS63.froz_0 HI0.out
     have hns42_0 := NB137_0.out
     have hms42_0 := NB0_137.out
     refine skip_ (w1 := ?_) (by rfl) rfl ?_ ?_
     rotate_left
     ·go_simp
      rfl
     refine hK.out _ _ ?_
     clear hK K
     refine done_ (done_of HT_.out (by kernel_rfl)) ?_
     obtain ⟨HGz43, hgz43⟩ := HI0.out
     have hcz43_0 := cellS63_0 HGz43
     have hcz43_1 := cellS63_1 HGz43
     have hcz43_2 := cellS63_2 HGz43
     have hcz43_3 := cellS63_3 HGz43
     have hcz43_4 := cellS63_4 HGz43
     have hcz43_5 := cellS63_5 HGz43
     have hcz43_6 := cellS63_6 HGz43
     have hcz43_7 := cellS63_7 HGz43
     have hcz43_8 := cellS63_8 HGz43
     have hfz43_0 := blk_frozen HGz43 0
     have hfz43_1 := blk_frozen HGz43 1
     have hfz43_2 := blk_frozen HGz43 2
     have hfz43_3 := blk_frozen HGz43 3
     have hfz43_4 := blk_frozen HGz43 4
     have hfz43_5 := blk_frozen HGz43 5
     have hfz43_6 := blk_frozen HGz43 6
     have hfz43_7 := blk_frozen HGz43 7
     have hfz43_8 := blk_frozen HGz43 8
     clear HGz43 hgz43
     try go_wp2
     go_ret
     exact ⟨by first | rfl | (simp [errW_none, errW_some] <;> rfl) | (simp [*, errW_none, errW_some] <;> rfl), by repeat (first | (with_reducible first | exact HI0.out | apply IsS63.alloc | apply IsS63.drewN | apply IsS63.drew | apply IsS63.set_0 | apply IsS63.set_1 | apply IsS63.set_2 | apply IsS63.set_3 | apply IsS63.set_4 | apply IsS63.set_5 | apply IsS63.set_6 | apply IsS63.set_7 | apply IsS63.set_8 | refine IsS63.far ?_ NB0_137.out _) | exact HI0.out), by repeat (first | (with_reducible first | exact HB.out | apply below_alloc | apply pw_below_drewN | apply below_drew1 | refine below_set ?_ (IsS63.ge HI0.out) | refine below_set ?_ GE137.out) | exact HB.out), by repeat (first | (with_reducible first | exact HK.out | apply KeepBut.set_ | apply keep_drewN | apply keep_drew | apply keep_alloc | refine keep_far ?_ GW137.out _) | exact HK.out)⟩
    ·rw [if_neg c32] at H
     have c32b0 : (a1 == 2) = false := beq_eq_false_iff_ne.mpr c32
     have c32b1 : (a1 != 2) = true := bne_iff_ne.mpr c32
     by_cases c44 : s0_3 = 2
     ·rw [if_pos c44] at H
      have c44b0 : (s0_3 == 2) = true := beq_iff_eq.mpr c44
      have c44b1 : (s0_3 != 2) = false := bne_eq_false_iff_eq.mpr c44
      clear c44
      replace H := Option.bind_eq_some_iff.mp H
      obtain ⟨t161, A450, H⟩ := H
      replace H : ((aimd_Aimd_hold.f s0_0 s0_1 s0_2 0 s0_4 s0_5 s0_6 true t134 t135 t136 x138002_8).bind fun bt162 => ((sat_Clamp.f bt162.1 bt162.2.1 bt162.2.2.1).bind fun t171 => (some (t171, t171, bt162.2.1, bt162.2.2.1, bt162.2.2.2.1, bt162.2.2.2.2.1, bt162.2.2.2.2.2.1, bt162.2.2.2.2.2.2.1, bt162.2.2.2.2.2.2.2.1, bt162.2.2.2.2.2.2.2.2)))) = some (r1, r2, r3, r4, r5, r6, r7, r8, r9, r10) := H
      have A45 := Aside0.mk A450
      clear A450
      replace H := Option.bind_eq_some_iff.mp H
      obtain ⟨⟨t162, t163, t164, t165, t166, t167, t168, t169, t170⟩, A460, H⟩ := H
      replace H : ((sat_Clamp.f t162 t163 t164).bind fun t171 => (some (t171, t171, t163, t164, t165, t166, t167, t168, t169, t170))) = some (r1, r2, r3, r4, r5, r6, r7, r8, r9, r10) := H
      have A46 := Aside0.mk A460
      clear A460
      replace H := Option.bind_eq_some_iff.mp H
      obtain ⟨t171, A470, H⟩ := H
      replace H : (some (t171, t171, t163, t164, t165, t166, t167, t168, t169, t170)) = some (r1, r2, r3, r4, r5, r6, r7, r8, r9, r10) := H
      have A47 := Aside0.mk A470
      clear A470
      simp only [Option.some.injEq, Prod.mk.injEq] at H
      obtain ⟨rfl, rfl, rfl, rfl, rfl, rfl, rfl, rfl, rfl, rfl⟩ := H
      obtain ⟨HGz48, hgz48⟩ := HI0.out
      have hcz48_0 := cellS63_0 HGz48
      have hcz48_1 := cellS63_1 HGz48
      have hcz48_2 := cellS63_2 HGz48
      have hcz48_3 := cellS63_3 HGz48
      have hcz48_4 := cellS63_4 HGz48
      have hcz48_5 := cellS63_5 HGz48
      have hcz48_6 := cellS63_6 HGz48
      have hcz48_7 := cellS63_7 HGz48
      have hcz48_8 := cellS63_8 HGz48
      have hfz48_0 := blk_frozen HGz48 0
      have hfz48_1 := blk_frozen HGz48 1
      have hfz48_2 := blk_frozen HGz48 2
      have hfz48_3 := blk_frozen HGz48 3
      have hfz48_4 := blk_frozen HGz48 4
      have hfz48_5 := blk_frozen HGz48 5
      have hfz48_6 := blk_frozen HGz48 6
      have hfz48_7 := blk_frozen HGz48 7
      have hfz48_8 := blk_frozen HGz48 8
      clear HGz48 hgz48
      have hnb49 := NB137_0.out
      have hnc49 := NB0_137.out
      have hcz50_0 : wc.cell? ⟨gb137, 0, none⟩ = some (.int .i64 t135) := (blk_cell BK137.out 0).trans rfl
      have hcz50_1 : wc.cell? ⟨gb137, 1, none⟩ = some (.int .i64 t136) := (blk_cell BK137.out 1).trans rfl
      have hcz50_2 : wc.cell? ⟨gb137, 2, none⟩ = some (.int .i64 x138002_8) := (blk_cell BK137.out 2).trans rfl
      have hfz50_0 := blk_frozen BK137.out 0
      have hfz50_1 := blk_frozen BK137.out 1
      have hfz50_2 := blk_frozen BK137.out 2
      try go_wp2
      refine named_ ?_
      intro W_ hW_
      have hS_ : IsS63 w0 W_ g s0_0 s0_1 s0_2 0 s0_4 s0_5 s0_6 true t134 := by rw [hW_]; exact by repeat (first | (with_reducible first | exact HI0.out | apply IsS63.alloc | apply IsS63.drewN | apply IsS63.drew | apply IsS63.set_0 | apply IsS63.set_1 | apply IsS63.set_2 | apply IsS63.set_3 | apply IsS63.set_4 | apply IsS63.set_5 | apply IsS63.set_6 | apply IsS63.set_7 | apply IsS63.set_8 | refine IsS63.far ?_ NB0_137.out _) | exact HI0.out)
      have hX0_ : W_.heap[gb137]? = some (.cells #[.int .i64 t135, .int .i64 t136, .int .i64 x138002_8] 66 (0, 0)) := by rw [hW_]; exact (by (with_reducible repeat (first | refine blk_drewN ?_ _ | refine blk_drew ?_ | refine blk_alloc ?_ _)); refine blk_far ?_ NB137_0.out _; (with_reducible repeat (first | refine blk_drewN ?_ _ | refine blk_drew ?_ | refine blk_alloc ?_ _)); refine blk_far ?_ NB137_0.out _; (with_reducible repeat (first | refine blk_drewN ?_ _ | refine blk_drew ?_ | refine blk_alloc ?_ _)); refine blk_far ?_ NB137_0.out _; (with_reducible repeat (first | refine blk_drewN ?_ _ | refine blk_drew ?_ | refine blk_alloc ?_ _)); exact BK137.out)
      refine start_ (n := 13) (S := fun w' => Below W_.heap.size W_ w') (ds := [12]) #[false, false, false, false, false, false, false, false, false, false, false, false, false] (by kernel_rfl) rfl rfl (below_drew1 (Below.refl _ _)) (fun hHeld => ?_)
      refine pure_ (i := 5) (N := some 64) (v := ?_) (a' := ?_) (bl 13 32) rfl rfl (by kernel_rfl) (fun _ _ _ h => h) (Or.inl ⟨by rfl, ?_⟩) ?_ ?_
      rotate_left
      ·intro w'
       go_simp
       with_reducible rfl
      rotate_left
      ·simp only [puts_]
       rfl
      refine pure_ (i := 6) (N := some 65) (v := ?_) (a' := ?_) (bl 13 96) rfl rfl (by kernel_rfl) (fun _ _ _ h => h) (Or.inl ⟨by rfl, ?_⟩) ?_ ?_
      rotate_left
      ·intro w'
       go_simp
       with_reducible rfl
      rotate_left
      ·simp only [puts_]
       rfl
      refine pure_ (i := 7) (N := some 66) (v := ?_) (a' := ?_) (bl 13 224) rfl rfl (by kernel_rfl) (fun _ _ _ h => h) (Or.inl ⟨by rfl, ?_⟩) ?_ ?_
      rotate_left
      ·intro w'
       go_simp
       with_reducible rfl
      rotate_left
      ·simp only [puts_]
       rfl
      refine take_ (i := 8) (N := some 67) (v := ?_) (a' := ?_) (bl 13 480) rfl rfl (by kernel_rfl) (fun _ _ _ h => h) (Or.inl ⟨by rfl, ?_⟩) hHeld ?_ ?_
      rotate_left
      ·intro w' hw'
       have cb0_ := pw_cell_below hw' (IsS63.cell_3 hS_)
       have cb1_ := pw_cell_below hw' (show W_.cell? ⟨gb137, 0, none⟩ = some (.int .i64 t135) from (blk_cell hX0_ 0).trans rfl)
       have cb2_ := pw_cell_below hw' (show W_.cell? ⟨gb137, 1, none⟩ = some (.int .i64 t136) from (blk_cell hX0_ 1).trans rfl)
       have cb3_ := pw_cell_below hw' (show W_.cell? ⟨gb137, 2, none⟩ = some (.int .i64 x138002_8) from (blk_cell hX0_ 2).trans rfl)
       go_simp
       with_reducible rfl
      rotate_left
      ·simp only [puts_]
       rfl
      refine pure_ (i := 10) (N := some 69) (v := ?_) (a' := ?_) (bl 13 1504) rfl rfl (by kernel_rfl) (fun _ _ _ h => h) (Or.inl ⟨by rfl, ?_⟩) ?_ ?_
      rotate_left
      ·intro w'
       go_simp
       with_reducible rfl
      rotate_left
      ·simp only [puts_]
       rfl
      refine take_ (i := 11) (N := some 70) (v := ?_) (a' := ?_) (bl 13 3552) rfl rfl (by kernel_rfl) (fun _ _ _ h => h) (Or.inl ⟨by rfl, ?_⟩) hHeld ?_ ?_
      rotate_left
      ·intro w' hw'
       have cb0_ := pw_cell_below hw' (IsS63.cell_3 hS_)
       have cb1_ := pw_cell_below hw' (show W_.cell? ⟨gb137, 0, none⟩ = some (.int .i64 t135) from (blk_cell hX0_ 0).trans rfl)
       have cb2_ := pw_cell_below hw' (show W_.cell? ⟨gb137, 1, none⟩ = some (.int .i64 t136) from (blk_cell hX0_ 1).trans rfl)
       have cb3_ := pw_cell_below hw' (show W_.cell? ⟨gb137, 2, none⟩ = some (.int .i64 x138002_8) from (blk_cell hX0_ 2).trans rfl)
       go_simp
       with_reducible rfl
      rotate_left
      ·simp only [puts_]
       rfl
      refine one_ (i := 0) (N := some 62) (bl 13 3553) rfl rfl (by kernel_rfl) (by decide) (fun K hK => ?_)
      refine value_ (w1 := W_.drew.alloc (.map #[] 0)) (v := .map (some W_.drew.heap.size)) (by rfl) rfl (by rfl) ?_
      refine hK.out _ _ (below_alloc (below_drew1 (Below.refl _ _)) _) (fun hHeld => ?_)
      clear hK K
      refine norm_ (a' := ?_) ?_ ?_
      rotate_left
      ·show Act.put _ (some 62) _ = _
       simp only [puts_]
       rfl
      have hM0_ : FMap W_ (W_.drew.alloc (.map #[] 0)) W_.drew.heap.size [] := FMap.made (below_drew1 (Below.refl _ _))
      generalize hW0_ : W_.drew.alloc (.map #[] 0) = W0_ at hM0_ hHeld ⊢
      clear hW0_
      generalize hm_ : W_.drew.heap.size = m_ at hM0_ ⊢
      clear hm_
      refine join_ (σ := Unit) 3 #[true, true, true, true, false, true, true, true, true, false, true, true, false] (fun _ => []) (fun _ w' => ∃ l, FMap W_ w' m_ l ∧ l.find? (fun p => (0 : Int) == p.1) = some (0, 37)) ?_ ?_
      rotate_left
      ·intro hJ_
       refine three_ (i := 1) (j := 2) (k := 3) (Ni := none) (Nj := none) (Nk := none) (bl 13 3555) (bl 13 3557) (bl 13 3561) rfl rfl rfl rfl rfl rfl (by kernel_rfl) (by decide) (by decide) (by decide) ?_ ?_ ?_
       ·intro K hK
        obtain ⟨W1_, hr1_, hM1_⟩ := FMap.ins (P := Try.prog) Try.underlying69 Try.underlying3 hM0_ 0 37 (by decide)
        refine skip_ (w1 := W1_) (by rfl) rfl ?_ ?_
        ·exact ins_skip rfl hr1_
        refine hK.out _ _ hM1_.bel (fun hHeld => ?_)
        clear hK K
        refine two_ (i := 2) (j := 3) (Ni := none) (Nj := none) (bl 13 3559) (bl 13 3563) rfl rfl rfl rfl (by kernel_rfl) (by decide) (by decide) ?_ ?_
        ·intro K hK
         obtain ⟨W2_, hr2_, hM2_⟩ := FMap.ins (P := Try.prog) Try.underlying69 Try.underlying3 hM1_ 1 38 (by decide)
         refine skip_ (w1 := W2_) (by rfl) rfl ?_ ?_
         ·exact ins_skip rfl hr2_
         refine hK.out _ _ hM2_.bel (fun hHeld => ?_)
         clear hK K
         refine one_ (i := 3) (N := none) (bl 13 3567) rfl rfl (by kernel_rfl) (by decide) ?_
         ·intro K hK
          obtain ⟨W3_, hr3_, hM3_⟩ := FMap.ins (P := Try.prog) Try.underlying69 Try.underlying3 hM2_ 2 39 (by decide)
          refine skip_ (w1 := W3_) (by rfl) rfl ?_ ?_
          ·exact ins_skip rfl hr3_
          refine hK.out _ _ hM3_.bel (fun hHeld => ?_)
          clear hK K
          exact hJ_ () _ ⟨_, hM3_, by decide⟩
        ·intro K hK
         obtain ⟨W2_, hr2_, hM2_⟩ := FMap.ins (P := Try.prog) Try.underlying69 Try.underlying3 hM1_ 2 39 (by decide)
         refine skip_ (w1 := W2_) (by rfl) rfl ?_ ?_
         ·exact ins_skip rfl hr2_
         refine hK.out _ _ hM2_.bel (fun hHeld => ?_)
         clear hK K
         refine one_ (i := 2) (N := none) (bl 13 3567) rfl rfl (by kernel_rfl) (by decide) ?_
         ·intro K hK
          obtain ⟨W3_, hr3_, hM3_⟩ := FMap.ins (P := Try.prog) Try.underlying69 Try.underlying3 hM2_ 1 38 (by decide)
          refine skip_ (w1 := W3_) (by rfl) rfl ?_ ?_
          ·exact ins_skip rfl hr3_
          refine hK.out _ _ hM3_.bel (fun hHeld => ?_)
          clear hK K
          exact hJ_ () _ ⟨_, hM3_, by decide⟩
       ·intro K hK
        obtain ⟨W1_, hr1_, hM1_⟩ := FMap.ins (P := Try.prog) Try.underlying69 Try.underlying3 hM0_ 1 38 (by decide)
        refine skip_ (w1 := W1_) (by rfl) rfl ?_ ?_
        ·exact ins_skip rfl hr1_
        refine hK.out _ _ hM1_.bel (fun hHeld => ?_)
        clear hK K
        refine two_ (i := 1) (j := 3) (Ni := none) (Nj := none) (bl 13 3559) (bl 13 3565) rfl rfl rfl rfl (by kernel_rfl) (by decide) (by decide) ?_ ?_
        ·intro K hK
         obtain ⟨W2_, hr2_, hM2_⟩ := FMap.ins (P := Try.prog) Try.underlying69 Try.underlying3 hM1_ 0 37 (by decide)
         refine skip_ (w1 := W2_) (by rfl) rfl ?_ ?_
         ·exact ins_skip rfl hr2_
         refine hK.out _ _ hM2_.bel (fun hHeld => ?_)
         clear hK K
         refine one_ (i := 3) (N := none) (bl 13 3567) rfl rfl (by kernel_rfl) (by decide) ?_
         ·intro K hK
          obtain ⟨W3_, hr3_, hM3_⟩ := FMap.ins (P := Try.prog) Try.underlying69 Try.underlying3 hM2_ 2 39 (by decide)
          refine skip_ (w1 := W3_) (by rfl) rfl ?_ ?_
          ·exact ins_skip rfl hr3_
          refine hK.out _ _ hM3_.bel (fun hHeld => ?_)
          clear hK K
          exact hJ_ () _ ⟨_, hM3_, by decide⟩
        ·intro K hK
         obtain ⟨W2_, hr2_, hM2_⟩ := FMap.ins (P := Try.prog) Try.underlying69 Try.underlying3 hM1_ 2 39 (by decide)
         refine skip_ (w1 := W2_) (by rfl) rfl ?_ ?_
         ·exact ins_skip rfl hr2_
         refine hK.out _ _ hM2_.bel (fun hHeld => ?_)
         clear hK K
         refine one_ (i := 1) (N := none) (bl 13 3567) rfl rfl (by kernel_rfl) (by decide) ?_
         ·intro K hK
          obtain ⟨W3_, hr3_, hM3_⟩ := FMap.ins (P := Try.prog) Try.underlying69 Try.underlying3 hM2_ 0 37 (by decide)
          refine skip_ (w1 := W3_) (by rfl) rfl ?_ ?_
          ·exact ins_skip rfl hr3_
          refine hK.out _ _ hM3_.bel (fun hHeld => ?_)
          clear hK K
          exact hJ_ () _ ⟨_, hM3_, by decide⟩
       ·intro K hK
        obtain ⟨W1_, hr1_, hM1_⟩ := FMap.ins (P := Try.prog) Try.underlying69 Try.underlying3 hM0_ 2 39 (by decide)
        refine skip_ (w1 := W1_) (by rfl) rfl ?_ ?_
        ·exact ins_skip rfl hr1_
        refine hK.out _ _ hM1_.bel (fun hHeld => ?_)
        clear hK K
        refine two_ (i := 1) (j := 2) (Ni := none) (Nj := none) (bl 13 3563) (bl 13 3565) rfl rfl rfl rfl (by kernel_rfl) (by decide) (by decide) ?_ ?_
        ·intro K hK
         obtain ⟨W2_, hr2_, hM2_⟩ := FMap.ins (P := Try.prog) Try.underlying69 Try.underlying3 hM1_ 0 37 (by decide)
         refine skip_ (w1 := W2_) (by rfl) rfl ?_ ?_
         ·exact ins_skip rfl hr2_
         refine hK.out _ _ hM2_.bel (fun hHeld => ?_)
         clear hK K
         refine one_ (i := 2) (N := none) (bl 13 3567) rfl rfl (by kernel_rfl) (by decide) ?_
         ·intro K hK
          obtain ⟨W3_, hr3_, hM3_⟩ := FMap.ins (P := Try.prog) Try.underlying69 Try.underlying3 hM2_ 1 38 (by decide)
          refine skip_ (w1 := W3_) (by rfl) rfl ?_ ?_
          ·exact ins_skip rfl hr3_
          refine hK.out _ _ hM3_.bel (fun hHeld => ?_)
          clear hK K
          exact hJ_ () _ ⟨_, hM3_, by decide⟩
        ·intro K hK
         obtain ⟨W2_, hr2_, hM2_⟩ := FMap.ins (P := Try.prog) Try.underlying69 Try.underlying3 hM1_ 1 38 (by decide)
         refine skip_ (w1 := W2_) (by rfl) rfl ?_ ?_
         ·exact ins_skip rfl hr2_
         refine hK.out _ _ hM2_.bel (fun hHeld => ?_)
         clear hK K
         refine one_ (i := 1) (N := none) (bl 13 3567) rfl rfl (by kernel_rfl) (by decide) ?_
         ·intro K hK
          obtain ⟨W3_, hr3_, hM3_⟩ := FMap.ins (P := Try.prog) Try.underlying69 Try.underlying3 hM2_ 0 37 (by decide)
          refine skip_ (w1 := W3_) (by rfl) rfl ?_ ?_
          ·exact ins_skip rfl hr3_
          refine hK.out _ _ hM3_.bel (fun hHeld => ?_)
          clear hK K
          exact hJ_ () _ ⟨_, hM3_, by decide⟩
      rintro _ w51 ⟨l_, hM_, hf_⟩
      dsimp only [putAll]
      have hHeld := hM_.bel
      refine pure_ (i := 4) (N := some 63) (v := ?_) (a' := ?_) (bl 13 3583) rfl rfl (by kernel_rfl) (fun _ _ _ h => h) (Or.inl ⟨by rfl, ?_⟩) ?_ ?_
      rotate_left
      ·intro w'
       go_simp
       with_reducible rfl
      rotate_left
      ·simp only [puts_]
       rfl
      refine one_ (i := 9) (N := some 68) (bl 13 4095) rfl rfl (by kernel_rfl) (by decide) (fun K hK => ?_)
      refine value_ (w1 := w51) (v := fnv 37) (by rfl) rfl ?_ ?_
      ·have hl_ := FMap.look (P := Try.prog) Try.underlying69 Try.underlying3 hM_ 0 37 hf_
       exact look_val rfl hl_
      refine hK.out _ _ hM_.bel (fun hHeld => ?_)
      clear hK K
      refine norm_ (a' := ?_) ?_ ?_
      rotate_left
      ·show Act.put _ (some 68) _ = _
       simp only [puts_]
       rfl
      refine last_ (i := 12) (N := some 71) (bl 13 8191) rfl rfl (by kernel_rfl) (by decide) (fun K hK => ?_)
      refine call_ 37 #[.pointer (some ⟨g, 0, none⟩), .agg #[.int .i64 t135, .int .i64 t136, .int .i64 x138002_8]] (by rfl) rfl ?_ ?_
      ·simp [execOp, resolve, Deferred.ofValue, invoke, Act.eval, fnv, enters_ (P := Try.prog) (fn := Try.f37) Try.func37 (by kernel_rfl) rfl]
      have hb := hM_.bel
      clear hM_ hHeld hf_ hS_ hX0_
      subst hW_
      have n0_ := Aside0.mk (blk_below (g := gb137) (o := .cells #[.int .i64 t135, .int .i64 t136, .int .i64 x138002_8] 66 (0, 0)) (by (with_reducible repeat (first | refine blk_drewN ?_ _ | refine blk_drew ?_ | refine blk_alloc ?_ _)); refine blk_far ?_ NB137_0.out _; (with_reducible repeat (first | refine blk_drewN ?_ _ | refine blk_drew ?_ | refine blk_alloc ?_ _)); refine blk_far ?_ NB137_0.out _; (with_reducible repeat (first | refine blk_drewN ?_ _ | refine blk_drew ?_ | refine blk_alloc ?_ _)); refine blk_far ?_ NB137_0.out _; (with_reducible repeat (first | refine blk_drewN ?_ _ | refine blk_drew ?_ | refine blk_alloc ?_ _)); exact BK137.out) hb)
      have n1_ := Aside0.mk (IsS63.below (show IsS63 w0 (((wc.setCell ⟨g, 7, none⟩ (.bool true)).setCell ⟨g, 8, none⟩ (.int .i64 t134)).setCell ⟨g, 3, none⟩ (.int .i64 0)) g s0_0 s0_1 s0_2 0 s0_4 s0_5 s0_6 true t134 from by repeat (first | (with_reducible first | exact HI0.out | apply IsS63.alloc | apply IsS63.drewN | apply IsS63.drew | apply IsS63.set_0 | apply IsS63.set_1 | apply IsS63.set_2 | apply IsS63.set_3 | apply IsS63.set_4 | apply IsS63.set_5 | apply IsS63.set_6 | apply IsS63.set_7 | apply IsS63.set_8 | refine IsS63.far ?_ NB0_137.out _) | exact HI0.out)) hb)
      have n2_ := Aside0.mk (KeepBut.trans (by repeat (first | (with_reducible first | exact HK.out | apply KeepBut.set_ | apply keep_drewN | apply keep_drew | apply keep_alloc | refine keep_far ?_ GW137.out _) | exact HK.out)) (KeepBut.of_below hb g none) (.inl rfl))
      have n3_ := Aside0.mk (below_step (by repeat (first | (with_reducible first | exact HB.out | apply below_alloc | apply pw_below_drewN | apply below_drew1 | refine below_set ?_ (IsS63.ge HI0.out) | refine below_set ?_ GE137.out) | exact HB.out)) hb)
      clear BK137
      clear HI0
      clear HK
      clear HB
      have BK137 := n0_
      have HI0 := n1_
      have HK := n2_
      have HB := n3_
      clear n0_ n1_ n2_ n3_
      (try clear hb)
      (try clear hb2)
      (try clear hk)
      (try clear hi)
      (with_reducible refine (aimd_Aimd_hold.calls g s0_0 s0_1 s0_2 0 s0_4 s0_5 s0_6 true t134 t135 t136 x138002_8 t162 t163 t164 t165 t166 t167 t168 t169 t170 w0 _ ?side1 ?side2 A46.out).mono ?_)
      (case side1 => repeat (first | (with_reducible first | exact HI0.out | apply IsS63.alloc | apply IsS63.drewN | apply IsS63.drew | apply IsS63.set_0 | apply IsS63.set_1 | apply IsS63.set_2 | apply IsS63.set_3 | apply IsS63.set_4 | apply IsS63.set_5 | apply IsS63.set_6 | apply IsS63.set_7 | apply IsS63.set_8 | refine IsS63.far ?_ NB0_137.out _) | exact HI0.out))
      (case side2 => repeat (first | (with_reducible first | exact HB.out | apply below_alloc | apply pw_below_drewN | apply below_drew1 | refine below_set ?_ (IsS63.ge HI0.out) | refine below_set ?_ GE137.out) | exact HB.out))
      rintro e w52 ⟨rfl, hi, hb, hk⟩
      refine ⟨_, rfl, ?_⟩
      refine hK.out _ _ ?_
      refine done_ (by kernel_rfl) ?_
      clear hK K
      have n0_ := Aside0.mk (KeepBut.blk hk (g' := gb137) (o := .cells #[.int .i64 t135, .int .i64 t136, .int .i64 x138002_8] 66 (0, 0)) (by (with_reducible repeat (first | refine blk_drewN ?_ _ | refine blk_drew ?_ | refine blk_alloc ?_ _)); exact BK137.out) NB137_0.out (by simp))
      have n1_ := Aside0.mk (KeepBut.trans (by repeat (first | (with_reducible first | exact HK.out | apply KeepBut.set_ | apply keep_drewN | apply keep_drew | apply keep_alloc | refine keep_far ?_ GW137.out _) | exact HK.out)) hk (.inl rfl))
      have n2_ := Aside0.mk (hb)
      have n3_ := Aside0.mk (hi)
      clear BK137
      clear HK
      clear HB
      clear HI0
      have BK137 := n0_
      have HK := n1_
      have HB := n2_
      have HI0 := n3_
      clear n0_ n1_ n2_ n3_
      (try clear hb)
      (try clear hb2)
      (try clear hk)
      (try clear hi)
      try go_wp2
      have n0_ := Aside0.mk (blk_drew BK137.out)
      have n1_ := Aside0.mk (IsS63.drew HI0.out)
      have n2_ := Aside0.mk (keep_drew HK.out)
      have n3_ := Aside0.mk (below_drew1 HB.out)
      clear BK137
      clear HI0
      clear HK
      clear HB
      have BK137 := n0_
      have HI0 := n1_
      have HK := n2_
      have HB := n3_
      clear n0_ n1_ n2_ n3_
      refine start_ (n := 17) (S := fun w' => w'.cell? ⟨g, 0, none⟩ = some (.int .i64 t162) ∧ w'.cell? ⟨g, 1, none⟩ = some (.int .i64 t163) ∧ w'.cell? ⟨g, 2, none⟩ = some (.int .i64 t164) ∧ w'.cell? ⟨g, 3, none⟩ = some (.int .i64 t165) ∧ w'.cell? ⟨g, 4, none⟩ = some (.bool t166) ∧ w'.cell? ⟨g, 5, none⟩ = some (.int .i64 t167) ∧ w'.cell? ⟨g, 6, none⟩ = some (.int .i64 t168) ∧ w'.cell? ⟨g, 7, none⟩ = some (.bool t169) ∧ w'.cell? ⟨g, 8, none⟩ = some (.int .i64 t170)) (ds := [16]) #[false, false, false, false, false, false, false, false, false, false, false, false, false, false, false, false, false] (by kernel_rfl) rfl rfl ⟨(IsS63.cell_0 HI0.out), (IsS63.cell_1 HI0.out), (IsS63.cell_2 HI0.out), (IsS63.cell_3 HI0.out), (IsS63.cell_4 HI0.out), (IsS63.cell_5 HI0.out), (IsS63.cell_6 HI0.out), (IsS63.cell_7 HI0.out), (IsS63.cell_8 HI0.out)⟩ (fun hHeld => ?_); refine with_tabW aimd_Aimd_Update.tab14 aimd_Aimd_Update.bits14 (fun HT_ HW_ => ?_)
      generalize w52.drew = w53 at BK137 HI0 HK HB hHeld ⊢
      refine pure_ (i := 0) (N := some 72) (v := ?_) (a' := ?_) (bl 17 1) rfl rfl (any_of HT_.out (by kernel_rfl)) (fun _ _ _ h => h) (Or.inl ⟨by rfl, ?_⟩) ?_ ?_
      rotate_left
      ·intro w'
       go_simp
       with_reducible rfl
      rotate_left
      ·simp only [puts_]
       rfl
      refine pure_ (i := 1) (N := some 73) (v := ?_) (a' := ?_) (bl 17 3) rfl rfl (any_of HT_.out (by kernel_rfl)) (fun _ _ _ h => h) (Or.inl ⟨by rfl, ?_⟩) ?_ ?_
      rotate_left
      ·intro w'
       go_simp
       with_reducible rfl
      rotate_left
      ·simp only [puts_]
       rfl
      refine pure_ (i := 2) (N := some 74) (v := ?_) (a' := ?_) (bl 17 7) rfl rfl (any_of HT_.out (by kernel_rfl)) (fun _ _ _ h => h) (Or.inl ⟨by rfl, ?_⟩) ?_ ?_
      rotate_left
      ·intro w'
       go_simp
       with_reducible rfl
      rotate_left
      ·simp only [puts_]
       rfl
      refine pure_ (i := 3) (N := some 75) (v := ?_) (a' := ?_) (bl 17 15) rfl rfl (any_of HT_.out (by kernel_rfl)) (fun _ _ _ h => h) (Or.inl ⟨by rfl, ?_⟩) ?_ ?_
      rotate_left
      ·intro w'
       go_simp
       with_reducible rfl
      rotate_left
      ·simp only [puts_]
       rfl
      refine pure_ (i := 5) (N := some 77) (v := ?_) (a' := ?_) (bl 17 47) rfl rfl (any_of HT_.out (by kernel_rfl)) (fun _ _ _ h => h) (Or.inl ⟨by rfl, ?_⟩) ?_ ?_
      rotate_left
      ·intro w'
       go_simp
       with_reducible rfl
      rotate_left
      ·simp only [puts_]
       rfl
      refine pure_ (i := 6) (N := some 78) (v := ?_) (a' := ?_) (bl 17 111) rfl rfl (any_of HT_.out (by kernel_rfl)) (fun _ _ _ h => h) (Or.inl ⟨by rfl, ?_⟩) ?_ ?_
      rotate_left
      ·intro w'
       go_simp
       with_reducible rfl
      rotate_left
      ·simp only [puts_]
       rfl
      refine pure_ (i := 7) (N := some 79) (v := ?_) (a' := ?_) (bl 17 239) rfl rfl (any_of HT_.out (by kernel_rfl)) (fun _ _ _ h => h) (Or.inl ⟨by rfl, ?_⟩) ?_ ?_
      rotate_left
      ·intro w'
       go_simp
       with_reducible rfl
      rotate_left
      ·simp only [puts_]
       rfl
      refine pure_ (i := 9) (N := some 81) (v := ?_) (a' := ?_) (bl 17 751) rfl rfl (any_of HT_.out (by kernel_rfl)) (fun _ _ _ h => h) (Or.inl ⟨by rfl, ?_⟩) ?_ ?_
      rotate_left
      ·intro w'
       go_simp
       with_reducible rfl
      rotate_left
      ·simp only [puts_]
       rfl
      refine pure_ (i := 10) (N := some 82) (v := ?_) (a' := ?_) (bl 17 1775) rfl rfl (any_of HT_.out (by kernel_rfl)) (fun _ _ _ h => h) (Or.inl ⟨by rfl, ?_⟩) ?_ ?_
      rotate_left
      ·intro w'
       go_simp
       with_reducible rfl
      rotate_left
      ·simp only [puts_]
       rfl
      refine pure_ (i := 11) (N := some 83) (v := ?_) (a' := ?_) (bl 17 3823) rfl rfl (any_of HT_.out (by kernel_rfl)) (fun _ _ _ h => h) (Or.inl ⟨by rfl, ?_⟩) ?_ ?_
      rotate_left
      ·intro w'
       go_simp
       with_reducible rfl
      rotate_left
      ·simp only [puts_]
       rfl
      refine take_ (i := 4) (N := some 76) (v := ?_) (a' := ?_) (bl 17 3839) rfl rfl (take_ofW HT_.out HW_.out (by kernel_rfl)) (fun _ _ _ h => h) (Or.inl ⟨by rfl, ?_⟩) hHeld ?_ ?_
      rotate_left
      ·rintro w' ⟨s0, s1, s2, s3, s4, s5, s6, s7, s8⟩
       go_simp
       with_reducible rfl
      rotate_left
      ·simp only [puts_]
       rfl
      refine take_ (i := 8) (N := some 80) (v := ?_) (a' := ?_) (bl 17 4095) rfl rfl (take_ofW HT_.out HW_.out (by kernel_rfl)) (fun _ _ _ h => h) (Or.inl ⟨by rfl, ?_⟩) hHeld ?_ ?_
      rotate_left
      ·rintro w' ⟨s0, s1, s2, s3, s4, s5, s6, s7, s8⟩
       go_simp
       with_reducible rfl
      rotate_left
      ·simp only [puts_]
       rfl
      refine take_ (i := 12) (N := some 84) (v := ?_) (a' := ?_) (bl 17 8191) rfl rfl (take_ofW HT_.out HW_.out (by kernel_rfl)) (fun _ _ _ h => h) (Or.inl ⟨by rfl, ?_⟩) hHeld ?_ ?_
      rotate_left
      ·rintro w' ⟨s0, s1, s2, s3, s4, s5, s6, s7, s8⟩
       go_simp
       with_reducible rfl
      rotate_left
      ·simp only [puts_]
       rfl
      refine one_ (i := 13) (N := some 85) (bl 17 16383) rfl rfl (one_of HT_.out (by kernel_rfl)) (by decide) (fun K hK => ?_)
      refine goes_ Try.func36 (by kernel_rfl) rfl #[.int .i64 t162, .int .i64 t163, .int .i64 t164] (by rfl) rfl rfl (by (try simp only [List.map_toArray, List.map_cons, List.map_nil]); first | done | rfl | (simp only [List.length_drop, List.length_take]; rfl)) ?_
      with_reducible refine (sat_Clamp.calls t162 t163 t164 t171 _ A47.out).mono ?_
      rintro e w' ⟨rfl, ⟨nd, rfl⟩⟩
      refine ⟨_, rfl, ?_⟩
      refine hK.out _ _ ⟨(IsS63.cell_0 HI0.out), (IsS63.cell_1 HI0.out), (IsS63.cell_2 HI0.out), (IsS63.cell_3 HI0.out), (IsS63.cell_4 HI0.out), (IsS63.cell_5 HI0.out), (IsS63.cell_6 HI0.out), (IsS63.cell_7 HI0.out), (IsS63.cell_8 HI0.out)⟩ (fun hHeld => ?_)
      clear hK K
      refine norm_ (a' := ?_) ?_ ?_
      rotate_left
      ·show Act.put _ (some 85) _ = _
       simp only [puts_]
       rfl
      refine pure_ (i := 14) (N := some 86) (v := ?_) (a' := ?_) (bl 17 32767) rfl rfl (any_of HT_.out (by kernel_rfl)) (fun _ _ _ h => h) (Or.inl ⟨by rfl, ?_⟩) ?_ ?_
      rotate_left
      ·intro w'
       go_simp
       with_reducible rfl
      rotate_left
      ·simp only [puts_]
       rfl
      refine pure_ (i := 15) (N := some 87) (v := ?_) (a' := ?_) (bl 17 65535) rfl rfl (any_of HT_.out (by kernel_rfl)) (fun _ _ _ h => h) (Or.inl ⟨by rfl, ?_⟩) ?_ ?_
      rotate_left
      ·intro w'
       go_simp
       with_reducible rfl
      rotate_left
      ·simp only [puts_]
       rfl
      refine last_ (i := 16) (N := none) (bl 17 131071) rfl rfl (one_of HT_.out (by kernel_rfl)) (by decide) (fun K hK => ?_)
      have hs54 : w53.cell? ⟨g, 0, none⟩ = some (.int .i64 t162) := IsS63.cell_0 HI0.out
      have hfs54 := IsS63.froz_0 HI0.out
      have hns54_0 := NB137_0.out
      have hms54_0 := NB0_137.out
      refine skip_ (w1 := ?_) (by rfl) rfl ?_ ?_
      rotate_left
      ·go_simp
       rfl
      refine hK.out _ _ ?_
      clear hK K
      refine done_ (done_of HT_.out (by kernel_rfl)) ?_
      obtain ⟨HGz55, hgz55⟩ := HI0.out
      have hcz55_0 := cellS63_0 HGz55
      have hcz55_1 := cellS63_1 HGz55
      have hcz55_2 := cellS63_2 HGz55
      have hcz55_3 := cellS63_3 HGz55
      have hcz55_4 := cellS63_4 HGz55
      have hcz55_5 := cellS63_5 HGz55
      have hcz55_6 := cellS63_6 HGz55
      have hcz55_7 := cellS63_7 HGz55
      have hcz55_8 := cellS63_8 HGz55
      have hfz55_0 := blk_frozen HGz55 0
      have hfz55_1 := blk_frozen HGz55 1
      have hfz55_2 := blk_frozen HGz55 2
      have hfz55_3 := blk_frozen HGz55 3
      have hfz55_4 := blk_frozen HGz55 4
      have hfz55_5 := blk_frozen HGz55 5
      have hfz55_6 := blk_frozen HGz55 6
      have hfz55_7 := blk_frozen HGz55 7
      have hfz55_8 := blk_frozen HGz55 8
      clear HGz55 hgz55
      try go_wp2
      go_ret
      exact ⟨by first | rfl | (simp [errW_none, errW_some] <;> rfl) | (simp [*, errW_none, errW_some] <;> rfl), by repeat (first | (with_reducible first | exact HI0.out | apply IsS63.alloc | apply IsS63.drewN | apply IsS63.drew | apply IsS63.set_0 | apply IsS63.set_1 | apply IsS63.set_2 | apply IsS63.set_3 | apply IsS63.set_4 | apply IsS63.set_5 | apply IsS63.set_6 | apply IsS63.set_7 | apply IsS63.set_8 | refine IsS63.far ?_ NB0_137.out _) | exact HI0.out), by repeat (first | (with_reducible first | exact HB.out | apply below_alloc | apply pw_below_drewN | apply below_drew1 | refine below_set ?_ (IsS63.ge HI0.out) | refine below_set ?_ GE137.out) | exact HB.out), by repeat (first | (with_reducible first | exact HK.out | apply KeepBut.set_ | apply keep_drewN | apply keep_drew | apply keep_alloc | refine keep_far ?_ GW137.out _) | exact HK.out)⟩
     ·rw [if_neg c44] at H
      have c44b0 : (s0_3 == 2) = false := beq_eq_false_iff_ne.mpr c44
      have c44b1 : (s0_3 != 2) = true := bne_iff_ne.mpr c44
      replace H := Option.bind_eq_some_iff.mp H
      obtain ⟨t172, A560, H⟩ := H
      replace H : ((aimd_Aimd_lift.f kj8 s0_0 s0_1 s0_2 1 s0_4 s0_5 s0_6 true t134 t135 t136 x138002_8).bind fun bt173 => ((sat_Clamp.f bt173.1 bt173.2.1 bt173.2.2.1).bind fun t182 => (some (t182, t182, bt173.2.1, bt173.2.2.1, bt173.2.2.2.1, bt173.2.2.2.2.1, bt173.2.2.2.2.2.1, bt173.2.2.2.2.2.2.1, bt173.2.2.2.2.2.2.2.1, bt173.2.2.2.2.2.2.2.2)))) = some (r1, r2, r3, r4, r5, r6, r7, r8, r9, r10) := H
      have A56 := Aside0.mk A560
      clear A560
      replace H := Option.bind_eq_some_iff.mp H
      obtain ⟨⟨t173, t174, t175, t176, t177, t178, t179, t180, t181⟩, A570, H⟩ := H
      replace H : ((sat_Clamp.f t173 t174 t175).bind fun t182 => (some (t182, t182, t174, t175, t176, t177, t178, t179, t180, t181))) = some (r1, r2, r3, r4, r5, r6, r7, r8, r9, r10) := H
      have A57 := Aside0.mk A570
      clear A570
      replace H := Option.bind_eq_some_iff.mp H
      obtain ⟨t182, A580, H⟩ := H
      replace H : (some (t182, t182, t174, t175, t176, t177, t178, t179, t180, t181)) = some (r1, r2, r3, r4, r5, r6, r7, r8, r9, r10) := H
      have A58 := Aside0.mk A580
      clear A580
      simp only [Option.some.injEq, Prod.mk.injEq] at H
      obtain ⟨rfl, rfl, rfl, rfl, rfl, rfl, rfl, rfl, rfl, rfl⟩ := H
      obtain ⟨HGz59, hgz59⟩ := HI0.out
      have hcz59_0 := cellS63_0 HGz59
      have hcz59_1 := cellS63_1 HGz59
      have hcz59_2 := cellS63_2 HGz59
      have hcz59_3 := cellS63_3 HGz59
      have hcz59_4 := cellS63_4 HGz59
      have hcz59_5 := cellS63_5 HGz59
      have hcz59_6 := cellS63_6 HGz59
      have hcz59_7 := cellS63_7 HGz59
      have hcz59_8 := cellS63_8 HGz59
      have hfz59_0 := blk_frozen HGz59 0
      have hfz59_1 := blk_frozen HGz59 1
      have hfz59_2 := blk_frozen HGz59 2
      have hfz59_3 := blk_frozen HGz59 3
      have hfz59_4 := blk_frozen HGz59 4
      have hfz59_5 := blk_frozen HGz59 5
      have hfz59_6 := blk_frozen HGz59 6
      have hfz59_7 := blk_frozen HGz59 7
      have hfz59_8 := blk_frozen HGz59 8
      clear HGz59 hgz59
      have hnb60 := NB137_0.out
      have hnc60 := NB0_137.out
      have hcz61_0 : wc.cell? ⟨gb137, 0, none⟩ = some (.int .i64 t135) := (blk_cell BK137.out 0).trans rfl
      have hcz61_1 : wc.cell? ⟨gb137, 1, none⟩ = some (.int .i64 t136) := (blk_cell BK137.out 1).trans rfl
      have hcz61_2 : wc.cell? ⟨gb137, 2, none⟩ = some (.int .i64 x138002_8) := (blk_cell BK137.out 2).trans rfl
      have hfz61_0 := blk_frozen BK137.out 0
      have hfz61_1 := blk_frozen BK137.out 1
      have hfz61_2 := blk_frozen BK137.out 2
      try go_wp2
      refine named_ ?_
      intro W_ hW_
      have hS_ : IsS63 w0 W_ g s0_0 s0_1 s0_2 1 s0_4 s0_5 s0_6 true t134 := by rw [hW_]; exact by repeat (first | (with_reducible first | exact HI0.out | apply IsS63.alloc | apply IsS63.drewN | apply IsS63.drew | apply IsS63.set_0 | apply IsS63.set_1 | apply IsS63.set_2 | apply IsS63.set_3 | apply IsS63.set_4 | apply IsS63.set_5 | apply IsS63.set_6 | apply IsS63.set_7 | apply IsS63.set_8 | refine IsS63.far ?_ NB0_137.out _) | exact HI0.out)
      have hX0_ : W_.heap[gb137]? = some (.cells #[.int .i64 t135, .int .i64 t136, .int .i64 x138002_8] 66 (0, 0)) := by rw [hW_]; exact (by (with_reducible repeat (first | refine blk_drewN ?_ _ | refine blk_drew ?_ | refine blk_alloc ?_ _)); refine blk_far ?_ NB137_0.out _; (with_reducible repeat (first | refine blk_drewN ?_ _ | refine blk_drew ?_ | refine blk_alloc ?_ _)); refine blk_far ?_ NB137_0.out _; (with_reducible repeat (first | refine blk_drewN ?_ _ | refine blk_drew ?_ | refine blk_alloc ?_ _)); refine blk_far ?_ NB137_0.out _; (with_reducible repeat (first | refine blk_drewN ?_ _ | refine blk_drew ?_ | refine blk_alloc ?_ _)); exact BK137.out)
      refine start_ (n := 13) (S := fun w' => Below W_.heap.size W_ w') (ds := [12]) #[false, false, false, false, false, false, false, false, false, false, false, false, false] (by kernel_rfl) rfl rfl (below_drew1 (Below.refl _ _)) (fun hHeld => ?_)
      refine pure_ (i := 5) (N := some 64) (v := ?_) (a' := ?_) (bl 13 32) rfl rfl (by kernel_rfl) (fun _ _ _ h => h) (Or.inl ⟨by rfl, ?_⟩) ?_ ?_
      rotate_left
      ·intro w'
       go_simp
       with_reducible rfl
      rotate_left
      ·simp only [puts_]
       rfl
      refine pure_ (i := 6) (N := some 65) (v := ?_) (a' := ?_) (bl 13 96) rfl rfl (by kernel_rfl) (fun _ _ _ h => h) (Or.inl ⟨by rfl, ?_⟩) ?_ ?_
      rotate_left
      ·intro w'
       go_simp
       with_reducible rfl
      rotate_left
      ·simp only [puts_]
       rfl
      refine pure_ (i := 7) (N := some 66) (v := ?_) (a' := ?_) (bl 13 224) rfl rfl (by kernel_rfl) (fun _ _ _ h => h) (Or.inl ⟨by rfl, ?_⟩) ?_ ?_
      rotate_left
      ·intro w'
       go_simp
       with_reducible rfl
      rotate_left
      ·simp only [puts_]
       rfl
      refine take_ (i := 8) (N := some 67) (v := ?_) (a' := ?_) (bl 13 480) rfl rfl (by kernel_rfl) (fun _ _ _ h => h) (Or.inl ⟨by rfl, ?_⟩) hHeld ?_ ?_
      rotate_left
      ·intro w' hw'
       have cb0_ := pw_cell_below hw' (IsS63.cell_3 hS_)
       have cb1_ := pw_cell_below hw' (show W_.cell? ⟨gb137, 0, none⟩ = some (.int .i64 t135) from (blk_cell hX0_ 0).trans rfl)
       have cb2_ := pw_cell_below hw' (show W_.cell? ⟨gb137, 1, none⟩ = some (.int .i64 t136) from (blk_cell hX0_ 1).trans rfl)
       have cb3_ := pw_cell_below hw' (show W_.cell? ⟨gb137, 2, none⟩ = some (.int .i64 x138002_8) from (blk_cell hX0_ 2).trans rfl)
       go_simp
       with_reducible rfl
      rotate_left
      ·simp only [puts_]
       rfl
      refine pure_ (i := 10) (N := some 69) (v := ?_) (a' := ?_) (bl 13 1504) rfl rfl (by kernel_rfl) (fun _ _ _ h => h) (Or.inl ⟨by rfl, ?_⟩) ?_ ?_
      rotate_left
      ·intro w'
       go_simp
       with_reducible rfl
      rotate_left
      ·simp only [puts_]
       rfl
      refine take_ (i := 11) (N := some 70) (v := ?_) (a' := ?_) (bl 13 3552) rfl rfl (by kernel_rfl) (fun _ _ _ h => h) (Or.inl ⟨by rfl, ?_⟩) hHeld ?_ ?_
      rotate_left
      ·intro w' hw'
       have cb0_ := pw_cell_below hw' (IsS63.cell_3 hS_)
       have cb1_ := pw_cell_below hw' (show W_.cell? ⟨gb137, 0, none⟩ = some (.int .i64 t135) from (blk_cell hX0_ 0).trans rfl)
       have cb2_ := pw_cell_below hw' (show W_.cell? ⟨gb137, 1, none⟩ = some (.int .i64 t136) from (blk_cell hX0_ 1).trans rfl)
       have cb3_ := pw_cell_below hw' (show W_.cell? ⟨gb137, 2, none⟩ = some (.int .i64 x138002_8) from (blk_cell hX0_ 2).trans rfl)
       go_simp
       with_reducible rfl
      rotate_left
      ·simp only [puts_]
       rfl
      refine one_ (i := 0) (N := some 62) (bl 13 3553) rfl rfl (by kernel_rfl) (by decide) (fun K hK => ?_)
      refine value_ (w1 := W_.drew.alloc (.map #[] 0)) (v := .map (some W_.drew.heap.size)) (by rfl) rfl (by rfl) ?_
      refine hK.out _ _ (below_alloc (below_drew1 (Below.refl _ _)) _) (fun hHeld => ?_)
      clear hK K
      refine norm_ (a' := ?_) ?_ ?_
      rotate_left
      ·show Act.put _ (some 62) _ = _
       simp only [puts_]
       rfl
      have hM0_ : FMap W_ (W_.drew.alloc (.map #[] 0)) W_.drew.heap.size [] := FMap.made (below_drew1 (Below.refl _ _))
      generalize hW0_ : W_.drew.alloc (.map #[] 0) = W0_ at hM0_ hHeld ⊢
      clear hW0_
      generalize hm_ : W_.drew.heap.size = m_ at hM0_ ⊢
      clear hm_
      refine join_ (σ := Unit) 3 #[true, true, true, true, false, true, true, true, true, false, true, true, false] (fun _ => []) (fun _ w' => ∃ l, FMap W_ w' m_ l ∧ l.find? (fun p => (1 : Int) == p.1) = some (1, 38)) ?_ ?_
      rotate_left
      ·intro hJ_
       refine three_ (i := 1) (j := 2) (k := 3) (Ni := none) (Nj := none) (Nk := none) (bl 13 3555) (bl 13 3557) (bl 13 3561) rfl rfl rfl rfl rfl rfl (by kernel_rfl) (by decide) (by decide) (by decide) ?_ ?_ ?_
       ·intro K hK
        obtain ⟨W1_, hr1_, hM1_⟩ := FMap.ins (P := Try.prog) Try.underlying69 Try.underlying3 hM0_ 0 37 (by decide)
        refine skip_ (w1 := W1_) (by rfl) rfl ?_ ?_
        ·exact ins_skip rfl hr1_
        refine hK.out _ _ hM1_.bel (fun hHeld => ?_)
        clear hK K
        refine two_ (i := 2) (j := 3) (Ni := none) (Nj := none) (bl 13 3559) (bl 13 3563) rfl rfl rfl rfl (by kernel_rfl) (by decide) (by decide) ?_ ?_
        ·intro K hK
         obtain ⟨W2_, hr2_, hM2_⟩ := FMap.ins (P := Try.prog) Try.underlying69 Try.underlying3 hM1_ 1 38 (by decide)
         refine skip_ (w1 := W2_) (by rfl) rfl ?_ ?_
         ·exact ins_skip rfl hr2_
         refine hK.out _ _ hM2_.bel (fun hHeld => ?_)
         clear hK K
         refine one_ (i := 3) (N := none) (bl 13 3567) rfl rfl (by kernel_rfl) (by decide) ?_
         ·intro K hK
          obtain ⟨W3_, hr3_, hM3_⟩ := FMap.ins (P := Try.prog) Try.underlying69 Try.underlying3 hM2_ 2 39 (by decide)
          refine skip_ (w1 := W3_) (by rfl) rfl ?_ ?_
          ·exact ins_skip rfl hr3_
          refine hK.out _ _ hM3_.bel (fun hHeld => ?_)
          clear hK K
          exact hJ_ () _ ⟨_, hM3_, by decide⟩
        ·intro K hK
         obtain ⟨W2_, hr2_, hM2_⟩ := FMap.ins (P := Try.prog) Try.underlying69 Try.underlying3 hM1_ 2 39 (by decide)
         refine skip_ (w1 := W2_) (by rfl) rfl ?_ ?_
         ·exact ins_skip rfl hr2_
         refine hK.out _ _ hM2_.bel (fun hHeld => ?_)
         clear hK K
         refine one_ (i := 2) (N := none) (bl 13 3567) rfl rfl (by kernel_rfl) (by decide) ?_
         ·intro K hK
          obtain ⟨W3_, hr3_, hM3_⟩ := FMap.ins (P := Try.prog) Try.underlying69 Try.underlying3 hM2_ 1 38 (by decide)
          refine skip_ (w1 := W3_) (by rfl) rfl ?_ ?_
          ·exact ins_skip rfl hr3_
          refine hK.out _ _ hM3_.bel (fun hHeld => ?_)
          clear hK K
          exact hJ_ () _ ⟨_, hM3_, by decide⟩
       ·intro K hK
        obtain ⟨W1_, hr1_, hM1_⟩ := FMap.ins (P := Try.prog) Try.underlying69 Try.underlying3 hM0_ 1 38 (by decide)
        refine skip_ (w1 := W1_) (by rfl) rfl ?_ ?_
        ·exact ins_skip rfl hr1_
        refine hK.out _ _ hM1_.bel (fun hHeld => ?_)
        clear hK K
        refine two_ (i := 1) (j := 3) (Ni := none) (Nj := none) (bl 13 3559) (bl 13 3565) rfl rfl rfl rfl (by kernel_rfl) (by decide) (by decide) ?_ ?_
        ·intro K hK
         obtain ⟨W2_, hr2_, hM2_⟩ := FMap.ins (P := Try.prog) Try.underlying69 Try.underlying3 hM1_ 0 37 (by decide)
         refine skip_ (w1 := W2_) (by rfl) rfl ?_ ?_
         ·exact ins_skip rfl hr2_
         refine hK.out _ _ hM2_.bel (fun hHeld => ?_)
         clear hK K
         refine one_ (i := 3) (N := none) (bl 13 3567) rfl rfl (by kernel_rfl) (by decide) ?_
         ·intro K hK
          obtain ⟨W3_, hr3_, hM3_⟩ := FMap.ins (P := Try.prog) Try.underlying69 Try.underlying3 hM2_ 2 39 (by decide)
          refine skip_ (w1 := W3_) (by rfl) rfl ?_ ?_
          ·exact ins_skip rfl hr3_
          refine hK.out _ _ hM3_.bel (fun hHeld => ?_)
          clear hK K
          exact hJ_ () _ ⟨_, hM3_, by decide⟩
        ·intro K hK
         obtain ⟨W2_, hr2_, hM2_⟩ := FMap.ins (P := Try.prog) Try.underlying69 Try.underlying3 hM1_ 2 39 (by decide)
         refine skip_ (w1 := W2_) (by rfl) rfl ?_ ?_
         ·exact ins_skip rfl hr2_
         refine hK.out _ _ hM2_.bel (fun hHeld => ?_)
         clear hK K
         refine one_ (i := 1) (N := none) (bl 13 3567) rfl rfl (by kernel_rfl) (by decide) ?_
         ·intro K hK
          obtain ⟨W3_, hr3_, hM3_⟩ := FMap.ins (P := Try.prog) Try.underlying69 Try.underlying3 hM2_ 0 37 (by decide)
          refine skip_ (w1 := W3_) (by rfl) rfl ?_ ?_
          ·exact ins_skip rfl hr3_
          refine hK.out _ _ hM3_.bel (fun hHeld => ?_)
          clear hK K
          exact hJ_ () _ ⟨_, hM3_, by decide⟩
       ·intro K hK
        obtain ⟨W1_, hr1_, hM1_⟩ := FMap.ins (P := Try.prog) Try.underlying69 Try.underlying3 hM0_ 2 39 (by decide)
        refine skip_ (w1 := W1_) (by rfl) rfl ?_ ?_
        ·exact ins_skip rfl hr1_
        refine hK.out _ _ hM1_.bel (fun hHeld => ?_)
        clear hK K
        refine two_ (i := 1) (j := 2) (Ni := none) (Nj := none) (bl 13 3563) (bl 13 3565) rfl rfl rfl rfl (by kernel_rfl) (by decide) (by decide) ?_ ?_
        ·intro K hK
         obtain ⟨W2_, hr2_, hM2_⟩ := FMap.ins (P := Try.prog) Try.underlying69 Try.underlying3 hM1_ 0 37 (by decide)
         refine skip_ (w1 := W2_) (by rfl) rfl ?_ ?_
         ·exact ins_skip rfl hr2_
         refine hK.out _ _ hM2_.bel (fun hHeld => ?_)
         clear hK K
         refine one_ (i := 2) (N := none) (bl 13 3567) rfl rfl (by kernel_rfl) (by decide) ?_
         ·intro K hK
          obtain ⟨W3_, hr3_, hM3_⟩ := FMap.ins (P := Try.prog) Try.underlying69 Try.underlying3 hM2_ 1 38 (by decide)
          refine skip_ (w1 := W3_) (by rfl) rfl ?_ ?_
          ·exact ins_skip rfl hr3_
          refine hK.out _ _ hM3_.bel (fun hHeld => ?_)
          clear hK K
          exact hJ_ () _ ⟨_, hM3_, by decide⟩
        ·intro K hK
         obtain ⟨W2_, hr2_, hM2_⟩ := FMap.ins (P := Try.prog) Try.underlying69 Try.underlying3 hM1_ 1 38 (by decide)
         refine skip_ (w1 := W2_) (by rfl) rfl ?_ ?_
         ·exact ins_skip rfl hr2_
         refine hK.out _ _ hM2_.bel (fun hHeld => ?_)
         clear hK K
         refine one_ (i := 1) (N := none) (bl 13 3567) rfl rfl (by kernel_rfl) (by decide) ?_
         ·intro K hK
          obtain ⟨W3_, hr3_, hM3_⟩ := FMap.ins (P := Try.prog) Try.underlying69 Try.underlying3 hM2_ 0 37 (by decide)
          refine skip_ (w1 := W3_) (by rfl) rfl ?_ ?_
          ·exact ins_skip rfl hr3_
          refine hK.out _ _ hM3_.bel (fun hHeld => ?_)
          clear hK K
          exact hJ_ () _ ⟨_, hM3_, by decide⟩
      rintro _ w62 ⟨l_, hM_, hf_⟩
      dsimp only [putAll]
      have hHeld := hM_.bel
      refine pure_ (i := 4) (N := some 63) (v := ?_) (a' := ?_) (bl 13 3583) rfl rfl (by kernel_rfl) (fun _ _ _ h => h) (Or.inl ⟨by rfl, ?_⟩) ?_ ?_
      rotate_left
      ·intro w'
       go_simp
       with_reducible rfl
      rotate_left
      ·simp only [puts_]
       rfl
      refine one_ (i := 9) (N := some 68) (bl 13 4095) rfl rfl (by kernel_rfl) (by decide) (fun K hK => ?_)
      refine value_ (w1 := w62) (v := fnv 38) (by rfl) rfl ?_ ?_
      ·have hl_ := FMap.look (P := Try.prog) Try.underlying69 Try.underlying3 hM_ 1 38 hf_
       exact look_val rfl hl_
      refine hK.out _ _ hM_.bel (fun hHeld => ?_)
      clear hK K
      refine norm_ (a' := ?_) ?_ ?_
      rotate_left
      ·show Act.put _ (some 68) _ = _
       simp only [puts_]
       rfl
      refine last_ (i := 12) (N := some 71) (bl 13 8191) rfl rfl (by kernel_rfl) (by decide) (fun K hK => ?_)
      refine call_ 38 #[.pointer (some ⟨g, 0, none⟩), .agg #[.int .i64 t135, .int .i64 t136, .int .i64 x138002_8]] (by rfl) rfl ?_ ?_
      ·simp [execOp, resolve, Deferred.ofValue, invoke, Act.eval, fnv, enters_ (P := Try.prog) (fn := Try.f38) Try.func38 (by kernel_rfl) rfl]
      have hb := hM_.bel
      clear hM_ hHeld hf_ hS_ hX0_
      subst hW_
      have n0_ := Aside0.mk (blk_below (g := gb137) (o := .cells #[.int .i64 t135, .int .i64 t136, .int .i64 x138002_8] 66 (0, 0)) (by (with_reducible repeat (first | refine blk_drewN ?_ _ | refine blk_drew ?_ | refine blk_alloc ?_ _)); refine blk_far ?_ NB137_0.out _; (with_reducible repeat (first | refine blk_drewN ?_ _ | refine blk_drew ?_ | refine blk_alloc ?_ _)); refine blk_far ?_ NB137_0.out _; (with_reducible repeat (first | refine blk_drewN ?_ _ | refine blk_drew ?_ | refine blk_alloc ?_ _)); refine blk_far ?_ NB137_0.out _; (with_reducible repeat (first | refine blk_drewN ?_ _ | refine blk_drew ?_ | refine blk_alloc ?_ _)); exact BK137.out) hb)
      have n1_ := Aside0.mk (IsS63.below (show IsS63 w0 (((wc.setCell ⟨g, 7, none⟩ (.bool true)).setCell ⟨g, 8, none⟩ (.int .i64 t134)).setCell ⟨g, 3, none⟩ (.int .i64 1)) g s0_0 s0_1 s0_2 1 s0_4 s0_5 s0_6 true t134 from by repeat (first | (with_reducible first | exact HI0.out | apply IsS63.alloc | apply IsS63.drewN | apply IsS63.drew | apply IsS63.set_0 | apply IsS63.set_1 | apply IsS63.set_2 | apply IsS63.set_3 | apply IsS63.set_4 | apply IsS63.set_5 | apply IsS63.set_6 | apply IsS63.set_7 | apply IsS63.set_8 | refine IsS63.far ?_ NB0_137.out _) | exact HI0.out)) hb)
      have n2_ := Aside0.mk (KeepBut.trans (by repeat (first | (with_reducible first | exact HK.out | apply KeepBut.set_ | apply keep_drewN | apply keep_drew | apply keep_alloc | refine keep_far ?_ GW137.out _) | exact HK.out)) (KeepBut.of_below hb g none) (.inl rfl))
      have n3_ := Aside0.mk (below_step (by repeat (first | (with_reducible first | exact HB.out | apply below_alloc | apply pw_below_drewN | apply below_drew1 | refine below_set ?_ (IsS63.ge HI0.out) | refine below_set ?_ GE137.out) | exact HB.out)) hb)
      clear BK137
      clear HI0
      clear HK
      clear HB
      have BK137 := n0_
      have HI0 := n1_
      have HK := n2_
      have HB := n3_
      clear n0_ n1_ n2_ n3_
      (try clear hb)
      (try clear hb2)
      (try clear hk)
      (try clear hi)
      (with_reducible refine (aimd_Aimd_lift.calls kj8 g s0_0 s0_1 s0_2 1 s0_4 s0_5 s0_6 true t134 t135 t136 x138002_8 t173 t174 t175 t176 t177 t178 t179 t180 t181 w0 _ ?side1 ?side2 A57.out).mono ?_)
      (case side1 => repeat (first | (with_reducible first | exact HI0.out | apply IsS63.alloc | apply IsS63.drewN | apply IsS63.drew | apply IsS63.set_0 | apply IsS63.set_1 | apply IsS63.set_2 | apply IsS63.set_3 | apply IsS63.set_4 | apply IsS63.set_5 | apply IsS63.set_6 | apply IsS63.set_7 | apply IsS63.set_8 | refine IsS63.far ?_ NB0_137.out _) | exact HI0.out))
      (case side2 => repeat (first | (with_reducible first | exact HB.out | apply below_alloc | apply pw_below_drewN | apply below_drew1 | refine below_set ?_ (IsS63.ge HI0.out) | refine below_set ?_ GE137.out) | exact HB.out))
      rintro e w63 ⟨rfl, hi, hb, hk⟩
      refine ⟨_, rfl, ?_⟩
      refine hK.out _ _ ?_
      refine done_ (by kernel_rfl) ?_
      clear hK K
      have n0_ := Aside0.mk (KeepBut.blk hk (g' := gb137) (o := .cells #[.int .i64 t135, .int .i64 t136, .int .i64 x138002_8] 66 (0, 0)) (by (with_reducible repeat (first | refine blk_drewN ?_ _ | refine blk_drew ?_ | refine blk_alloc ?_ _)); exact BK137.out) NB137_0.out (by simp))
      have n1_ := Aside0.mk (KeepBut.trans (by repeat (first | (with_reducible first | exact HK.out | apply KeepBut.set_ | apply keep_drewN | apply keep_drew | apply keep_alloc | refine keep_far ?_ GW137.out _) | exact HK.out)) hk (.inl rfl))
      have n2_ := Aside0.mk (hb)
      have n3_ := Aside0.mk (hi)
      clear BK137
      clear HK
      clear HB
      clear HI0
      have BK137 := n0_
      have HK := n1_
      have HB := n2_
      have HI0 := n3_
      clear n0_ n1_ n2_ n3_
      (try clear hb)
      (try clear hb2)
      (try clear hk)
      (try clear hi)
      try go_wp2
      have n0_ := Aside0.mk (blk_drew BK137.out)
      have n1_ := Aside0.mk (IsS63.drew HI0.out)
      have n2_ := Aside0.mk (keep_drew HK.out)
      have n3_ := Aside0.mk (below_drew1 HB.out)
      clear BK137
      clear HI0
      clear HK
      clear HB
      have BK137 := n0_
      have HI0 := n1_
      have HK := n2_
      have HB := n3_
      clear n0_ n1_ n2_ n3_
      refine start_ (n := 17) (S := fun w' => w'.cell? ⟨g, 0, none⟩ = some (.int .i64 t173) ∧ w'.cell? ⟨g, 1, none⟩ = some (.int .i64 t174) ∧ w'.cell? ⟨g, 2, none⟩ = some (.int .i64 t175) ∧ w'.cell? ⟨g, 3, none⟩ = some (.int .i64 t176) ∧ w'.cell? ⟨g, 4, none⟩ = some (.bool t177) ∧ w'.cell? ⟨g, 5, none⟩ = some (.int .i64 t178) ∧ w'.cell? ⟨g, 6, none⟩ = some (.int .i64 t179) ∧ w'.cell? ⟨g, 7, none⟩ = some (.bool t180) ∧ w'.cell? ⟨g, 8, none⟩ = some (.int .i64 t181)) (ds := [16]) #[false, false, false, false, false, false, false, false, false, false, false, false, false, false, false, false, false] (by kernel_rfl) rfl rfl ⟨(IsS63.cell_0 HI0.out), (IsS63.cell_1 HI0.out), (IsS63.cell_2 HI0.out), (IsS63.cell_3 HI0.out), (IsS63.cell_4 HI0.out), (IsS63.cell_5 HI0.out), (IsS63.cell_6 HI0.out), (IsS63.cell_7 HI0.out), (IsS63.cell_8 HI0.out)⟩ (fun hHeld => ?_); refine with_tabW aimd_Aimd_Update.tab14 aimd_Aimd_Update.bits14 (fun HT_ HW_ => ?_)
      generalize w63.drew = w64 at BK137 HI0 HK HB hHeld ⊢
      refine pure_ (i := 0) (N := some 72) (v := ?_) (a' := ?_) (bl 17 1) rfl rfl (any_of HT_.out (by kernel_rfl)) (fun _ _ _ h => h) (Or.inl ⟨by rfl, ?_⟩) ?_ ?_
      rotate_left
      ·intro w'
       go_simp
       with_reducible rfl
      rotate_left
      ·simp only [puts_]
       rfl
      refine pure_ (i := 1) (N := some 73) (v := ?_) (a' := ?_) (bl 17 3) rfl rfl (any_of HT_.out (by kernel_rfl)) (fun _ _ _ h => h) (Or.inl ⟨by rfl, ?_⟩) ?_ ?_
      rotate_left
      ·intro w'
       go_simp
       with_reducible rfl
      rotate_left
      ·simp only [puts_]
       rfl
      refine pure_ (i := 2) (N := some 74) (v := ?_) (a' := ?_) (bl 17 7) rfl rfl (any_of HT_.out (by kernel_rfl)) (fun _ _ _ h => h) (Or.inl ⟨by rfl, ?_⟩) ?_ ?_
      rotate_left
      ·intro w'
       go_simp
       with_reducible rfl
      rotate_left
      ·simp only [puts_]
       rfl
      refine pure_ (i := 3) (N := some 75) (v := ?_) (a' := ?_) (bl 17 15) rfl rfl (any_of HT_.out (by kernel_rfl)) (fun _ _ _ h => h) (Or.inl ⟨by rfl, ?_⟩) ?_ ?_
      rotate_left
      ·intro w'
       go_simp
       with_reducible rfl
      rotate_left
      ·simp only [puts_]
       rfl
      refine pure_ (i := 5) (N := some 77) (v := ?_) (a' := ?_) (bl 17 47) rfl rfl (any_of HT_.out (by kernel_rfl)) (fun _ _ _ h => h) (Or.inl ⟨by rfl, ?_⟩) ?_ ?_
      rotate_left
      ·intro w'
       go_simp
       with_reducible rfl
      rotate_left
      ·simp only [puts_]
       rfl
      refine pure_ (i := 6) (N := some 78) (v := ?_) (a' := ?_) (bl 17 111) rfl rfl (any_of HT_.out (by kernel_rfl)) (fun _ _ _ h => h) (Or.inl ⟨by rfl, ?_⟩) ?_ ?_
      rotate_left
      ·intro w'
       go_simp
       with_reducible rfl
      rotate_left
      ·simp only [puts_]
       rfl
      refine pure_ (i := 7) (N := some 79) (v := ?_) (a' := ?_) (bl 17 239) rfl rfl (any_of HT_.out (by kernel_rfl)) (fun _ _ _ h => h) (Or.inl ⟨by rfl, ?_⟩) ?_ ?_
      rotate_left
      ·intro w'
       go_simp
       with_reducible rfl
      rotate_left
      ·simp only [puts_]
       rfl
      refine pure_ (i := 9) (N := some 81) (v := ?_) (a' := ?_) (bl 17 751) rfl rfl (any_of HT_.out (by kernel_rfl)) (fun _ _ _ h => h) (Or.inl ⟨by rfl, ?_⟩) ?_ ?_
      rotate_left
      ·intro w'
       go_simp
       with_reducible rfl
      rotate_left
      ·simp only [puts_]
       rfl
      refine pure_ (i := 10) (N := some 82) (v := ?_) (a' := ?_) (bl 17 1775) rfl rfl (any_of HT_.out (by kernel_rfl)) (fun _ _ _ h => h) (Or.inl ⟨by rfl, ?_⟩) ?_ ?_
      rotate_left
      ·intro w'
       go_simp
       with_reducible rfl
      rotate_left
      ·simp only [puts_]
       rfl
      refine pure_ (i := 11) (N := some 83) (v := ?_) (a' := ?_) (bl 17 3823) rfl rfl (any_of HT_.out (by kernel_rfl)) (fun _ _ _ h => h) (Or.inl ⟨by rfl, ?_⟩) ?_ ?_
      rotate_left
      ·intro w'
       go_simp
       with_reducible rfl
      rotate_left
      ·simp only [puts_]
       rfl
      refine take_ (i := 4) (N := some 76) (v := ?_) (a' := ?_) (bl 17 3839) rfl rfl (take_ofW HT_.out HW_.out (by kernel_rfl)) (fun _ _ _ h => h) (Or.inl ⟨by rfl, ?_⟩) hHeld ?_ ?_
      rotate_left
      ·rintro w' ⟨s0, s1, s2, s3, s4, s5, s6, s7, s8⟩
       go_simp
       with_reducible rfl
      rotate_left
      ·simp only [puts_]
       rfl
      refine take_ (i := 8) (N := some 80) (v := ?_) (a' := ?_) (bl 17 4095) rfl rfl (take_ofW HT_.out HW_.out (by kernel_rfl)) (fun _ _ _ h => h) (Or.inl ⟨by rfl, ?_⟩) hHeld ?_ ?_
      rotate_left
      ·rintro w' ⟨s0, s1, s2, s3, s4, s5, s6, s7, s8⟩
       go_simp
       with_reducible rfl
      rotate_left
      ·simp only [puts_]
       rfl
      refine take_ (i := 12) (N := some 84) (v := ?_) (a' := ?_) (bl 17 8191) rfl rfl (take_ofW HT_.out HW_.out (by kernel_rfl)) (fun _ _ _ h => h) (Or.inl ⟨by rfl, ?_⟩) hHeld ?_ ?_
      rotate_left
      ·rintro w' ⟨s0, s1, s2, s3, s4, s5, s6, s7, s8⟩
       go_simp
       with_reducible rfl
      rotate_left
      ·simp only [puts_]
       rfl
      refine one_ (i := 13) (N := some 85) (bl 17 16383) rfl rfl (one_of HT_.out (by kernel_rfl)) (by decide) (fun K hK => ?_)
      refine goes_ Try.func36 (by kernel_rfl) rfl #[.int .i64 t173, .int .i64 t174, .int .i64 t175] (by rfl) rfl rfl (by (try simp only [List.map_toArray, List.map_cons, List.map_nil]); first | done | rfl | (simp only [List.length_drop, List.length_take]; rfl)) ?_
      with_reducible refine (sat_Clamp.calls t173 t174 t175 t182 _ A58.out).mono ?_
      rintro e w' ⟨rfl, ⟨nd, rfl⟩⟩
      refine ⟨_, rfl, ?_⟩
      refine hK.out _ _ ⟨(IsS63.cell_0 HI0.out), (IsS63.cell_1 HI0.out), (IsS63.cell_2 HI0.out), (IsS63.cell_3 HI0.out), (IsS63.cell_4 HI0.out), (IsS63.cell_5 HI0.out), (IsS63.cell_6 HI0.out), (IsS63.cell_7 HI0.out), (IsS63.cell_8 HI0.out)⟩ (fun hHeld => ?_)
      clear hK K
      refine norm_ (a' := ?_) ?_ ?_
      rotate_left
      ·show Act.put _ (some 85) _ = _
       simp only [puts_]
       rfl
      refine pure_ (i := 14) (N := some 86) (v := ?_) (a' := ?_) (bl 17 32767) rfl rfl (any_of HT_.out (by kernel_rfl)) (fun _ _ _ h => h) (Or.inl ⟨by rfl, ?_⟩) ?_ ?_
      rotate_left
      ·intro w'
       go_simp
       with_reducible rfl
      rotate_left
      ·simp only [puts_]
       rfl
      refine pure_ (i := 15) (N := some 87) (v := ?_) (a' := ?_) (bl 17 65535) rfl rfl (any_of HT_.out (by kernel_rfl)) (fun _ _ _ h => h) (Or.inl ⟨by rfl, ?_⟩) ?_ ?_
      rotate_left
      ·intro w'
       go_simp
       with_reducible rfl
      rotate_left
      ·simp only [puts_]
       rfl
      refine last_ (i := 16) (N := none) (bl 17 131071) rfl rfl (one_of HT_.out (by kernel_rfl)) (by decide) (fun K hK => ?_)
      have hs65 : w64.cell? ⟨g, 0, none⟩ = some (.int .i64 t173) := IsS63.cell_0 HI0.out
      have hfs65 := IsS63.froz_0 HI0.out
      have hns65_0 := NB137_0.out
      have hms65_0 := NB0_137.out
      refine skip_ (w1 := ?_) (by rfl) rfl ?_ ?_
      rotate_left
      ·go_simp
       rfl
      refine hK.out _ _ ?_
      clear hK K
      refine done_ (done_of HT_.out (by kernel_rfl)) ?_
      obtain ⟨HGz66, hgz66⟩ := HI0.out
      have hcz66_0 := cellS63_0 HGz66
      have hcz66_1 := cellS63_1 HGz66
      have hcz66_2 := cellS63_2 HGz66
      have hcz66_3 := cellS63_3 HGz66
      have hcz66_4 := cellS63_4 HGz66
      have hcz66_5 := cellS63_5 HGz66
      have hcz66_6 := cellS63_6 HGz66
      have hcz66_7 := cellS63_7 HGz66
      have hcz66_8 := cellS63_8 HGz66
      have hfz66_0 := blk_frozen HGz66 0
      have hfz66_1 := blk_frozen HGz66 1
      have hfz66_2 := blk_frozen HGz66 2
      have hfz66_3 := blk_frozen HGz66 3
      have hfz66_4 := blk_frozen HGz66 4
      have hfz66_5 := blk_frozen HGz66 5
      have hfz66_6 := blk_frozen HGz66 6
      have hfz66_7 := blk_frozen HGz66 7
      have hfz66_8 := blk_frozen HGz66 8
      clear HGz66 hgz66
      try go_wp2
      go_ret
      exact ⟨by first | rfl | (simp [errW_none, errW_some] <;> rfl) | (simp [*, errW_none, errW_some] <;> rfl), by repeat (first | (with_reducible first | exact HI0.out | apply IsS63.alloc | apply IsS63.drewN | apply IsS63.drew | apply IsS63.set_0 | apply IsS63.set_1 | apply IsS63.set_2 | apply IsS63.set_3 | apply IsS63.set_4 | apply IsS63.set_5 | apply IsS63.set_6 | apply IsS63.set_7 | apply IsS63.set_8 | refine IsS63.far ?_ NB0_137.out _) | exact HI0.out), by repeat (first | (with_reducible first | exact HB.out | apply below_alloc | apply pw_below_drewN | apply below_drew1 | refine below_set ?_ (IsS63.ge HI0.out) | refine below_set ?_ GE137.out) | exact HB.out), by repeat (first | (with_reducible first | exact HK.out | apply KeepBut.set_ | apply keep_drewN | apply keep_drew | apply keep_alloc | refine keep_far ?_ GW137.out _) | exact HK.out)⟩
def aimd_Aimd_Update.nilrecv.f  (a1 : Int) (a2 : Int) (a3 : Int) (a4 : Int) : Option (Int) := some 0
set_option maxHeartbeats 8000000 in
set_option maxRecDepth 100000 in
theorem aimd_Aimd_Update.nilrecv.calls  (a1 : Int) (a2 : Int) (a3 : Int) (a4 : Int) (r : Int) (w : World) (h : aimd_Aimd_Update.nilrecv.f a1 a2 a3 a4 = some r) :
  Calls Try.prog 18 #[.pointer none, .int .i64 a1, .int .i64 a2, .int .i64 a3, .int .i64 a4] w fun e w' => e = .returned (.int .i64 r) ∧ Below w.heap.size w w' := by
 have hu66 := Try.underlying66
 have hpn25_eql : ∀ (a_ : Addr) (W_ : World), (Go.binOp .eql 25 (.pointer (some a_)) (.pointer none)).run Try.prog W_ = .ok (.bool false) W_ := fun _ _ => by kernel_rfl
 have hnn25_eql : ∀ (W_ : World), (Go.binOp .eql 25 (.pointer none) (.pointer none)).run Try.prog W_ = .ok (.bool true) W_ := fun _ => by kernel_rfl
 have HB := Aside0.mk (Below.refl w.heap.size w)
 have H : (some 0) = some r := h
 clear h
 obtain rfl := Option.some.inj H
 go_enter Try.func18, Try.ntmps18
 go_wp2
 go_ret
 exact ⟨by first | rfl | (simp [errW_none, errW_some] <;> rfl) | (simp [*, errW_none, errW_some] <;> rfl), by repeat (first | (with_reducible first | exact HB.out | apply below_alloc | apply pw_below_drewN | apply below_drew1) | exact HB.out)⟩
end Go.Proofs.Ytaelmmbodigheaa.P
end

section
namespace Go.Proofs.Ytaelmmbodigheaa.P
open Go.RowKit Go.Proofs.YtaelmmbodigheaaW.PrintWords Go.Proofs.YtaelmmbodigheaaW.PrintLast Go.Proofs.YtaelmmbodigheaaW.PrintMore
attribute [local go_sem] max2_int min2_int max_two min_two max_three min_three max_four min_four   -- for this text's walks alone
set_option linter.unusedVariables false
set_option linter.unusedSimpArgs false
def flywheellaw19_wakes.f (k : Nat)  : Option (Bool) := if (aimd_New.made.f 1000000 10000 5000000).isSome = true then ((aimd_New.made.f 1000000 10000 5000000).bind fun bt183 => (if bt183.2.2.2.2.2.2.2.2.2 = 0 then ((aimd_Aimd_Update.f k bt183.1 bt183.2.1 bt183.2.2.1 bt183.2.2.2.1 bt183.2.2.2.2.1 bt183.2.2.2.2.2.1 bt183.2.2.2.2.2.2.1 bt183.2.2.2.2.2.2.2.1 bt183.2.2.2.2.2.2.2.2.1 1 1000000 50000 0).bind fun bt194 => (if bt194.1 = 850000 then ((aimd_Aimd_Update.f k bt194.2.1 bt194.2.2.1 bt194.2.2.2.1 bt194.2.2.2.2.1 bt194.2.2.2.2.2.1 bt194.2.2.2.2.2.2.1 bt194.2.2.2.2.2.2.2.1 bt194.2.2.2.2.2.2.2.2.1 bt194.2.2.2.2.2.2.2.2.2 0 900000 50000 100000).bind fun bt204 => (some (decide (bt204.1 > 850000)))) else (some false))) else (some false))) else ((aimd_New.nil.f 1000000 10000 5000000).bind fun t214 => (if t214 = 0 then ((aimd_Aimd_Update.nilrecv.f 1 1000000 50000 0).bind fun t215 => (if t215 = 850000 then ((aimd_Aimd_Update.nilrecv.f 0 900000 50000 100000).bind fun t216 => (some (decide (t216 > 850000)))) else (some false))) else (some false)))
theorem flywheellaw19_wakes.mono : ∀ k, LeO (flywheellaw19_wakes.f k ) (flywheellaw19_wakes.f (k + 1) ) := by
 intro  k
 unfold flywheellaw19_wakes.f
 repeat' first
   | (with_reducible exact aimd_Aimd_Update.mono _ _ _ _ _ _ _ _ _ _ _ _ _ _)
   | (with_reducible exact LeO.refl _)
   | (with_reducible exact LeO.none _)
   | (with_reducible refine LeO.ite ?_ ?_)
   | (with_reducible refine LeO.bind ?_ (fun _ => ?_))
   | exact aimd_Aimd_Update.mono _ _ _ _ _ _ _ _ _ _ _ _ _ _
   | exact LeO.none _
   | refine LeO.ite ?_ ?_
   | refine LeO.bind ?_ (fun _ => ?_)
set_option maxHeartbeats 8000000 in
set_option maxRecDepth 100000 in
theorem flywheellaw19_wakes.calls (k : Nat)  (r : Bool) (w : World) (h : flywheellaw19_wakes.f k  = some r) :
  Calls Try.prog 16 #[] w fun e w' => e = .returned (.bool r) ∧ Below w.heap.size w w' := by
 have HB := Aside0.mk (Below.refl w.heap.size w)
 have H : (if (aimd_New.made.f 1000000 10000 5000000).isSome = true then ((aimd_New.made.f 1000000 10000 5000000).bind fun bt183 => (if bt183.2.2.2.2.2.2.2.2.2 = 0 then ((aimd_Aimd_Update.f k bt183.1 bt183.2.1 bt183.2.2.1 bt183.2.2.2.1 bt183.2.2.2.2.1 bt183.2.2.2.2.2.1 bt183.2.2.2.2.2.2.1 bt183.2.2.2.2.2.2.2.1 bt183.2.2.2.2.2.2.2.2.1 1 1000000 50000 0).bind fun bt194 => (if bt194.1 = 850000 then ((aimd_Aimd_Update.f k bt194.2.1 bt194.2.2.1 bt194.2.2.2.1 bt194.2.2.2.2.1 bt194.2.2.2.2.2.1 bt194.2.2.2.2.2.2.1 bt194.2.2.2.2.2.2.2.1 bt194.2.2.2.2.2.2.2.2.1 bt194.2.2.2.2.2.2.2.2.2 0 900000 50000 100000).bind fun bt204 => (some (decide (bt204.1 > 850000)))) else (some false))) else (some false))) else ((aimd_New.nil.f 1000000 10000 5000000).bind fun t214 => (if t214 = 0 then ((aimd_Aimd_Update.nilrecv.f 1 1000000 50000 0).bind fun t215 => (if t215 = 850000 then ((aimd_Aimd_Update.nilrecv.f 0 900000 50000 100000).bind fun t216 => (some (decide (t216 > 850000)))) else (some false))) else (some false)))) = some r := h
 clear h
 by_cases c1 : (aimd_New.made.f 1000000 10000 5000000).isSome = true
 ·rw [if_pos c1] at H
  have c1b0 : (aimd_New.made.f 1000000 10000 5000000).isSome = true := c1
  clear c1
  replace H := Option.bind_eq_some_iff.mp H
  obtain ⟨⟨t183, t184, t185, t186, t187, t188, t189, t190, t191, t193⟩, A20, H⟩ := H
  replace H : (if t193 = 0 then ((aimd_Aimd_Update.f k t183 t184 t185 t186 t187 t188 t189 t190 t191 1 1000000 50000 0).bind fun bt194 => (if bt194.1 = 850000 then ((aimd_Aimd_Update.f k bt194.2.1 bt194.2.2.1 bt194.2.2.2.1 bt194.2.2.2.2.1 bt194.2.2.2.2.2.1 bt194.2.2.2.2.2.2.1 bt194.2.2.2.2.2.2.2.1 bt194.2.2.2.2.2.2.2.2.1 bt194.2.2.2.2.2.2.2.2.2 0 900000 50000 100000).bind fun bt204 => (some (decide (bt204.1 > 850000)))) else (some false))) else (some false)) = some r := H
  have A2 := Aside0.mk A20
  clear A20
  by_cases c3 : t193 = 0
  ·rw [if_pos c3] at H
   have c3b0 : (t193 == 0) = true := beq_iff_eq.mpr c3
   have c3b1 : (t193 != 0) = false := bne_eq_false_iff_eq.mpr c3
   clear c3
   replace H := Option.bind_eq_some_iff.mp H
   obtain ⟨⟨t194, t195, t196, t197, t198, t199, t200, t201, t202, t203⟩, A40, H⟩ := H
   replace H : (if t194 = 850000 then ((aimd_Aimd_Update.f k t195 t196 t197 t198 t199 t200 t201 t202 t203 0 900000 50000 100000).bind fun bt204 => (some (decide (bt204.1 > 850000)))) else (some false)) = some r := H
   have A4 := Aside0.mk A40
   clear A40
   by_cases c5 : t194 = 850000
   ·rw [if_pos c5] at H
    have c5b0 : (t194 == 850000) = true := beq_iff_eq.mpr c5
    have c5b1 : (t194 != 850000) = false := bne_eq_false_iff_eq.mpr c5
    clear c5
    replace H := Option.bind_eq_some_iff.mp H
    obtain ⟨⟨t204, t205, t206, t207, t208, t209, t210, t211, t212, t213⟩, A60, H⟩ := H
    replace H : (some (decide (t204 > 850000))) = some r := H
    have A6 := Aside0.mk A60
    clear A60
    obtain rfl := Option.some.inj H
    go_enter Try.func16, Try.ntmps16
    go_wp2_with (first | ((with_reducible refine gate_callee (f := 14) rfl ?_); refine goesL_ (some 4) rfl rfl Try.func14 (by kernel_rfl) rfl #[.int .i64 1000000, .int .i64 10000, .int .i64 5000000] rfl (by (try simp only [List.map_toArray, List.map_cons, List.map_nil]); first | done | rfl | (simp only [List.length_drop, List.length_take]; rfl)) ?_; (with_reducible refine (aimd_New.made.calls 1000000 10000 5000000 t183 t184 t185 t186 t187 t188 t189 t190 t191 t193 _ _ (Below.refl _ _) A2.out).mono ?_); rintro e w7 ⟨g192, rfl, hi, hb, hb2⟩; refine ⟨_, rfl, ?_⟩; have n0_ := Aside0.mk (below_step (by repeat (first | (with_reducible first | exact HB.out | apply below_alloc | apply pw_below_drewN | apply below_drew1) | exact HB.out)) hb2); have n1_ := Aside0.mk ((IsS63.rebase hi (below_size (by repeat (first | (with_reducible first | exact HB.out | apply below_alloc | apply pw_below_drewN | apply below_drew1) | exact HB.out))))); clear HB; have HB := n0_; have HI192 := n1_; clear n0_ n1_; (try clear hb); (try clear hb2); (try clear hk); (try clear hi)) | (go_at_call 18; (with_reducible refine (aimd_Aimd_Update.calls k g192 t183 t184 t185 t186 t187 t188 t189 t190 t191 1 1000000 50000 0 t194 t195 t196 t197 t198 t199 t200 t201 t202 t203 w _ ?side1 ?side2 A4.out).mono ?_); (case side1 => repeat (first | (with_reducible first | exact HI192.out | apply IsS63.alloc | apply IsS63.drewN | apply IsS63.drew | apply IsS63.set_0 | apply IsS63.set_1 | apply IsS63.set_2 | apply IsS63.set_3 | apply IsS63.set_4 | apply IsS63.set_5 | apply IsS63.set_6 | apply IsS63.set_7 | apply IsS63.set_8) | exact HI192.out)); (case side2 => repeat (first | (with_reducible first | exact HB.out | apply below_alloc | apply pw_below_drewN | apply below_drew1 | refine below_set ?_ (IsS63.ge HI192.out)) | exact HB.out)); rintro e w8 ⟨rfl, hi, hb, hk⟩; have n0_ := Aside0.mk (hb); have n1_ := Aside0.mk (hi); clear HB; clear HI192; have HB := n0_; have HI192 := n1_; clear n0_ n1_; (try clear hb); (try clear hb2); (try clear hk); (try clear hi)) | (go_at_call 18; (with_reducible refine (aimd_Aimd_Update.calls k g192 t195 t196 t197 t198 t199 t200 t201 t202 t203 0 900000 50000 100000 t204 t205 t206 t207 t208 t209 t210 t211 t212 t213 w _ ?side1 ?side2 A6.out).mono ?_); (case side1 => repeat (first | (with_reducible first | exact HI192.out | apply IsS63.alloc | apply IsS63.drewN | apply IsS63.drew | apply IsS63.set_0 | apply IsS63.set_1 | apply IsS63.set_2 | apply IsS63.set_3 | apply IsS63.set_4 | apply IsS63.set_5 | apply IsS63.set_6 | apply IsS63.set_7 | apply IsS63.set_8) | exact HI192.out)); (case side2 => repeat (first | (with_reducible first | exact HB.out | apply below_alloc | apply pw_below_drewN | apply below_drew1 | refine below_set ?_ (IsS63.ge HI192.out)) | exact HB.out)); rintro e w9 ⟨rfl, hi, hb, hk⟩; have n0_ := Aside0.mk (hb); have n1_ := Aside0.mk (hi); clear HB; clear HI192; have HB := n0_; have HI192 := n1_; clear n0_ n1_; (try clear hb); (try clear hb2); (try clear hk); (try clear hi)))
    go_ret
    exact ⟨by first | rfl | (simp [errW_none, errW_some] <;> rfl) | (simp [*, errW_none, errW_some] <;> rfl), by repeat (first | (with_reducible first | exact HB.out | apply below_alloc | apply pw_below_drewN | apply below_drew1 | refine below_set ?_ (IsS63.ge HI192.out)) | exact HB.out)⟩
   ·rw [if_neg c5] at H
    have c5b0 : (t194 == 850000) = false := beq_eq_false_iff_ne.mpr c5
    have c5b1 : (t194 != 850000) = true := bne_iff_ne.mpr c5
    obtain rfl := Option.some.inj H
    go_enter Try.func16, Try.ntmps16
    go_wp2_with (first | ((with_reducible refine gate_callee (f := 14) rfl ?_); refine goesL_ (some 4) rfl rfl Try.func14 (by kernel_rfl) rfl #[.int .i64 1000000, .int .i64 10000, .int .i64 5000000] rfl (by (try simp only [List.map_toArray, List.map_cons, List.map_nil]); first | done | rfl | (simp only [List.length_drop, List.length_take]; rfl)) ?_; (with_reducible refine (aimd_New.made.calls 1000000 10000 5000000 t183 t184 t185 t186 t187 t188 t189 t190 t191 t193 _ _ (Below.refl _ _) A2.out).mono ?_); rintro e w10 ⟨g192, rfl, hi, hb, hb2⟩; refine ⟨_, rfl, ?_⟩; have n0_ := Aside0.mk (below_step (by repeat (first | (with_reducible first | exact HB.out | apply below_alloc | apply pw_below_drewN | apply below_drew1) | exact HB.out)) hb2); have n1_ := Aside0.mk ((IsS63.rebase hi (below_size (by repeat (first | (with_reducible first | exact HB.out | apply below_alloc | apply pw_below_drewN | apply below_drew1) | exact HB.out))))); clear HB; have HB := n0_; have HI192 := n1_; clear n0_ n1_; (try clear hb); (try clear hb2); (try clear hk); (try clear hi)) | (go_at_call 18; (with_reducible refine (aimd_Aimd_Update.calls k g192 t183 t184 t185 t186 t187 t188 t189 t190 t191 1 1000000 50000 0 t194 t195 t196 t197 t198 t199 t200 t201 t202 t203 w _ ?side1 ?side2 A4.out).mono ?_); (case side1 => repeat (first | (with_reducible first | exact HI192.out | apply IsS63.alloc | apply IsS63.drewN | apply IsS63.drew | apply IsS63.set_0 | apply IsS63.set_1 | apply IsS63.set_2 | apply IsS63.set_3 | apply IsS63.set_4 | apply IsS63.set_5 | apply IsS63.set_6 | apply IsS63.set_7 | apply IsS63.set_8) | exact HI192.out)); (case side2 => repeat (first | (with_reducible first | exact HB.out | apply below_alloc | apply pw_below_drewN | apply below_drew1 | refine below_set ?_ (IsS63.ge HI192.out)) | exact HB.out)); rintro e w11 ⟨rfl, hi, hb, hk⟩; have n0_ := Aside0.mk (hb); have n1_ := Aside0.mk (hi); clear HB; clear HI192; have HB := n0_; have HI192 := n1_; clear n0_ n1_; (try clear hb); (try clear hb2); (try clear hk); (try clear hi)))
    go_ret
    exact ⟨by first | rfl | (simp [errW_none, errW_some] <;> rfl) | (simp [*, errW_none, errW_some] <;> rfl), by repeat (first | (with_reducible first | exact HB.out | apply below_alloc | apply pw_below_drewN | apply below_drew1 | refine below_set ?_ (IsS63.ge HI192.out)) | exact HB.out)⟩
  ·rw [if_neg c3] at H
   have c3b0 : (t193 == 0) = false := beq_eq_false_iff_ne.mpr c3
   have c3b1 : (t193 != 0) = true := bne_iff_ne.mpr c3
   obtain rfl := Option.some.inj H
   go_enter Try.func16, Try.ntmps16
   go_wp2_with (first | ((with_reducible refine gate_callee (f := 14) rfl ?_); refine goesL_ (some 4) rfl rfl Try.func14 (by kernel_rfl) rfl #[.int .i64 1000000, .int .i64 10000, .int .i64 5000000] rfl (by (try simp only [List.map_toArray, List.map_cons, List.map_nil]); first | done | rfl | (simp only [List.length_drop, List.length_take]; rfl)) ?_; (with_reducible refine (aimd_New.made.calls 1000000 10000 5000000 t183 t184 t185 t186 t187 t188 t189 t190 t191 t193 _ _ (Below.refl _ _) A2.out).mono ?_); rintro e w12 ⟨g192, rfl, hi, hb, hb2⟩; refine ⟨_, rfl, ?_⟩; have n0_ := Aside0.mk (below_step (by repeat (first | (with_reducible first | exact HB.out | apply below_alloc | apply pw_below_drewN | apply below_drew1) | exact HB.out)) hb2); have n1_ := Aside0.mk ((IsS63.rebase hi (below_size (by repeat (first | (with_reducible first | exact HB.out | apply below_alloc | apply pw_below_drewN | apply below_drew1) | exact HB.out))))); clear HB; have HB := n0_; have HI192 := n1_; clear n0_ n1_; (try clear hb); (try clear hb2); (try clear hk); (try clear hi)))
   go_ret
   exact ⟨by first | rfl | (simp [errW_none, errW_some] <;> rfl) | (simp [*, errW_none, errW_some] <;> rfl), by repeat (first | (with_reducible first | exact HB.out | apply below_alloc | apply pw_below_drewN | apply below_drew1 | refine below_set ?_ (IsS63.ge HI192.out)) | exact HB.out)⟩
 ·rw [if_neg c1] at H
  have c1b0 : (aimd_New.made.f 1000000 10000 5000000).isSome = false := by simpa using c1
  clear c1
  replace H := Option.bind_eq_some_iff.mp H
  obtain ⟨t214, A130, H⟩ := H
  replace H : (if t214 = 0 then ((aimd_Aimd_Update.nilrecv.f 1 1000000 50000 0).bind fun t215 => (if t215 = 850000 then ((aimd_Aimd_Update.nilrecv.f 0 900000 50000 100000).bind fun t216 => (some (decide (t216 > 850000)))) else (some false))) else (some false)) = some r := H
  have A13 := Aside0.mk A130
  clear A130
  by_cases c14 : t214 = 0
  ·rw [if_pos c14] at H
   have c14b0 : (t214 == 0) = true := beq_iff_eq.mpr c14
   have c14b1 : (t214 != 0) = false := bne_eq_false_iff_eq.mpr c14
   clear c14
   replace H := Option.bind_eq_some_iff.mp H
   obtain ⟨t215, A150, H⟩ := H
   replace H : (if t215 = 850000 then ((aimd_Aimd_Update.nilrecv.f 0 900000 50000 100000).bind fun t216 => (some (decide (t216 > 850000)))) else (some false)) = some r := H
   have A15 := Aside0.mk A150
   clear A150
   by_cases c16 : t215 = 850000
   ·rw [if_pos c16] at H
    have c16b0 : (t215 == 850000) = true := beq_iff_eq.mpr c16
    have c16b1 : (t215 != 850000) = false := bne_eq_false_iff_eq.mpr c16
    clear c16
    replace H := Option.bind_eq_some_iff.mp H
    obtain ⟨t216, A170, H⟩ := H
    replace H : (some (decide (t216 > 850000))) = some r := H
    have A17 := Aside0.mk A170
    clear A170
    obtain rfl := Option.some.inj H
    go_enter Try.func16, Try.ntmps16
    go_wp2_with (first | ((with_reducible refine gate_callee (f := 14) rfl ?_); refine goesL_ (some 4) rfl rfl Try.func14 (by kernel_rfl) rfl #[.int .i64 1000000, .int .i64 10000, .int .i64 5000000] rfl (by (try simp only [List.map_toArray, List.map_cons, List.map_nil]); first | done | rfl | (simp only [List.length_drop, List.length_take]; rfl)) ?_; (with_reducible refine (aimd_New.nil.calls 1000000 10000 5000000 t214 _ A13.out).mono ?_); rintro e w18 ⟨rfl, hb⟩; refine ⟨_, rfl, ?_⟩; have n0_ := Aside0.mk (below_step (by repeat (first | (with_reducible first | exact HB.out | apply below_alloc | apply pw_below_drewN | apply below_drew1) | exact HB.out)) hb); clear HB; have HB := n0_; clear n0_; (try clear hb); (try clear hb2); (try clear hk); (try clear hi)) | (go_at_call 18; (with_reducible refine (aimd_Aimd_Update.nilrecv.calls  1 1000000 50000 0 t215 _ A15.out).mono ?_); rintro e w19 ⟨rfl, hb⟩; have n0_ := Aside0.mk (below_step (by repeat (first | (with_reducible first | exact HB.out | apply below_alloc | apply pw_below_drewN | apply below_drew1) | exact HB.out)) hb); clear HB; have HB := n0_; clear n0_; (try clear hb); (try clear hb2); (try clear hk); (try clear hi)) | (go_at_call 18; (with_reducible refine (aimd_Aimd_Update.nilrecv.calls  0 900000 50000 100000 t216 _ A17.out).mono ?_); rintro e w20 ⟨rfl, hb⟩; have n0_ := Aside0.mk (below_step (by repeat (first | (with_reducible first | exact HB.out | apply below_alloc | apply pw_below_drewN | apply below_drew1) | exact HB.out)) hb); clear HB; have HB := n0_; clear n0_; (try clear hb); (try clear hb2); (try clear hk); (try clear hi)))
    go_ret
    exact ⟨by first | rfl | (simp [errW_none, errW_some] <;> rfl) | (simp [*, errW_none, errW_some] <;> rfl), by repeat (first | (with_reducible first | exact HB.out | apply below_alloc | apply pw_below_drewN | apply below_drew1) | exact HB.out)⟩
   ·rw [if_neg c16] at H
    have c16b0 : (t215 == 850000) = false := beq_eq_false_iff_ne.mpr c16
    have c16b1 : (t215 != 850000) = true := bne_iff_ne.mpr c16
    obtain rfl := Option.some.inj H
    go_enter Try.func16, Try.ntmps16
    go_wp2_with (first | ((with_reducible refine gate_callee (f := 14) rfl ?_); refine goesL_ (some 4) rfl rfl Try.func14 (by kernel_rfl) rfl #[.int .i64 1000000, .int .i64 10000, .int .i64 5000000] rfl (by (try simp only [List.map_toArray, List.map_cons, List.map_nil]); first | done | rfl | (simp only [List.length_drop, List.length_take]; rfl)) ?_; (with_reducible refine (aimd_New.nil.calls 1000000 10000 5000000 t214 _ A13.out).mono ?_); rintro e w21 ⟨rfl, hb⟩; refine ⟨_, rfl, ?_⟩; have n0_ := Aside0.mk (below_step (by repeat (first | (with_reducible first | exact HB.out | apply below_alloc | apply pw_below_drewN | apply below_drew1) | exact HB.out)) hb); clear HB; have HB := n0_; clear n0_; (try clear hb); (try clear hb2); (try clear hk); (try clear hi)) | (go_at_call 18; (with_reducible refine (aimd_Aimd_Update.nilrecv.calls  1 1000000 50000 0 t215 _ A15.out).mono ?_); rintro e w22 ⟨rfl, hb⟩; have n0_ := Aside0.mk (below_step (by repeat (first | (with_reducible first | exact HB.out | apply below_alloc | apply pw_below_drewN | apply below_drew1) | exact HB.out)) hb); clear HB; have HB := n0_; clear n0_; (try clear hb); (try clear hb2); (try clear hk); (try clear hi)))
    go_ret
    exact ⟨by first | rfl | (simp [errW_none, errW_some] <;> rfl) | (simp [*, errW_none, errW_some] <;> rfl), by repeat (first | (with_reducible first | exact HB.out | apply below_alloc | apply pw_below_drewN | apply below_drew1) | exact HB.out)⟩
  ·rw [if_neg c14] at H
   have c14b0 : (t214 == 0) = false := beq_eq_false_iff_ne.mpr c14
   have c14b1 : (t214 != 0) = true := bne_iff_ne.mpr c14
   obtain rfl := Option.some.inj H
   go_enter Try.func16, Try.ntmps16
   go_wp2_with (first | ((with_reducible refine gate_callee (f := 14) rfl ?_); refine goesL_ (some 4) rfl rfl Try.func14 (by kernel_rfl) rfl #[.int .i64 1000000, .int .i64 10000, .int .i64 5000000] rfl (by (try simp only [List.map_toArray, List.map_cons, List.map_nil]); first | done | rfl | (simp only [List.length_drop, List.length_take]; rfl)) ?_; (with_reducible refine (aimd_New.nil.calls 1000000 10000 5000000 t214 _ A13.out).mono ?_); rintro e w23 ⟨rfl, hb⟩; refine ⟨_, rfl, ?_⟩; have n0_ := Aside0.mk (below_step (by repeat (first | (with_reducible first | exact HB.out | apply below_alloc | apply pw_below_drewN | apply below_drew1) | exact HB.out)) hb); clear HB; have HB := n0_; clear n0_; (try clear hb); (try clear hb2); (try clear hk); (try clear hi)))
   go_ret
   exact ⟨by first | rfl | (simp [errW_none, errW_some] <;> rfl) | (simp [*, errW_none, errW_some] <;> rfl), by repeat (first | (with_reducible first | exact HB.out | apply below_alloc | apply pw_below_drewN | apply below_drew1) | exact HB.out)⟩
def aimd_Aimd_Rate.f (s0_0 : Int) (s0_1 : Int) (s0_2 : Int) (s0_3 : Int) (s0_4 : Bool) (s0_5 : Int) (s0_6 : Int) (s0_7 : Bool) (s0_8 : Int) : Option (Int × Int × Int × Int × Int × Bool × Int × Int × Bool × Int) := some (s0_0, s0_0, s0_1, s0_2, s0_3, s0_4, s0_5, s0_6, s0_7, s0_8)
set_option maxHeartbeats 8000000 in
set_option maxRecDepth 100000 in
theorem aimd_Aimd_Rate.calls (g : Nat) (s0_0 : Int) (s0_1 : Int) (s0_2 : Int) (s0_3 : Int) (s0_4 : Bool) (s0_5 : Int) (s0_6 : Int) (s0_7 : Bool) (s0_8 : Int) (r1 : Int) (r2 : Int) (r3 : Int) (r4 : Int) (r5 : Int) (r6 : Bool) (r7 : Int) (r8 : Int) (r9 : Bool) (r10 : Int) (w0 w : World) (hI : IsS63 w0 w g s0_0 s0_1 s0_2 s0_3 s0_4 s0_5 s0_6 s0_7 s0_8) (hB : Below w0.heap.size w0 w) (h : aimd_Aimd_Rate.f s0_0 s0_1 s0_2 s0_3 s0_4 s0_5 s0_6 s0_7 s0_8 = some (r1, r2, r3, r4, r5, r6, r7, r8, r9, r10)) :
  Calls Try.prog 17 #[.pointer (some ⟨g, 0, none⟩)] w fun e w' => e = .returned (.int .i64 r1) ∧ IsS63 w0 w' g r2 r3 r4 r5 r6 r7 r8 r9 r10 ∧ Below w0.heap.size w0 w' ∧ KeepBut w w' g none := by
 have hpn25_eql : ∀ (a_ : Addr) (W_ : World), (Go.binOp .eql 25 (.pointer (some a_)) (.pointer none)).run Try.prog W_ = .ok (.bool false) W_ := fun _ _ => by kernel_rfl
 have hnn25_eql : ∀ (W_ : World), (Go.binOp .eql 25 (.pointer none) (.pointer none)).run Try.prog W_ = .ok (.bool true) W_ := fun _ => by kernel_rfl
 have HI0 := Aside0.mk hI
 have HK := Aside0.mk (KeepBut.refl w g none)
 have HL := Aside0.mk hB.size
 clear hI
 have HW0 := Aside0.mk hB.size
 have HB := Aside0.mk hB
 clear hB
 have H : (some (s0_0, s0_0, s0_1, s0_2, s0_3, s0_4, s0_5, s0_6, s0_7, s0_8)) = some (r1, r2, r3, r4, r5, r6, r7, r8, r9, r10) := h
 clear h
 simp only [Option.some.injEq, Prod.mk.injEq] at H
 obtain ⟨rfl, rfl, rfl, rfl, rfl, rfl, rfl, rfl, rfl, rfl⟩ := H
 obtain ⟨HGz2, hgz2⟩ := HI0.out
 have hcz2_0 := cellS63_0 HGz2
 have hcz2_1 := cellS63_1 HGz2
 have hcz2_2 := cellS63_2 HGz2
 have hcz2_3 := cellS63_3 HGz2
 have hcz2_4 := cellS63_4 HGz2
 have hcz2_5 := cellS63_5 HGz2
 have hcz2_6 := cellS63_6 HGz2
 have hcz2_7 := cellS63_7 HGz2
 have hcz2_8 := cellS63_8 HGz2
 have hfz2_0 := blk_frozen HGz2 0
 have hfz2_1 := blk_frozen HGz2 1
 have hfz2_2 := blk_frozen HGz2 2
 have hfz2_3 := blk_frozen HGz2 3
 have hfz2_4 := blk_frozen HGz2 4
 have hfz2_5 := blk_frozen HGz2 5
 have hfz2_6 := blk_frozen HGz2 6
 have hfz2_7 := blk_frozen HGz2 7
 have hfz2_8 := blk_frozen HGz2 8
 clear HGz2 hgz2
 go_enter Try.func17, Try.ntmps17
 go_wp2
 go_ret
 exact ⟨by first | rfl | (simp [errW_none, errW_some] <;> rfl) | (simp [*, errW_none, errW_some] <;> rfl), by repeat (first | (with_reducible first | exact HI0.out | apply IsS63.alloc | apply IsS63.drewN | apply IsS63.drew | apply IsS63.set_0 | apply IsS63.set_1 | apply IsS63.set_2 | apply IsS63.set_3 | apply IsS63.set_4 | apply IsS63.set_5 | apply IsS63.set_6 | apply IsS63.set_7 | apply IsS63.set_8) | exact HI0.out), by repeat (first | (with_reducible first | exact HB.out | apply below_alloc | apply pw_below_drewN | apply below_drew1 | refine below_set ?_ (IsS63.ge HI0.out)) | exact HB.out), by repeat (first | (with_reducible first | exact HK.out | apply KeepBut.set_ | apply keep_drewN | apply keep_drew | apply keep_alloc) | exact HK.out)⟩
end Go.Proofs.Ytaelmmbodigheaa.P
end

section
namespace Go.Proofs.Ytaelmmbodigheaa.P
open Go.RowKit Go.Proofs.YtaelmmbodigheaaW.PrintWords Go.Proofs.YtaelmmbodigheaaW.PrintLast Go.Proofs.YtaelmmbodigheaaW.PrintMore
attribute [local go_sem] max2_int min2_int max_two min_two max_three min_three max_four min_four   -- for this text's walks alone
set_option linter.unusedVariables false
set_option linter.unusedSimpArgs false
def IsS71 (w0 W : World) (g : Nat) (f0 : Int) (f1 : Int) (f2 : Int) (f3 : Int) (f4 : Bool) (f5 : Int) (f6 : Int) (f7 : Bool) (f8 : Int) : Prop := W.heap[g]? = some (.cells #[.int .i64 f0, .int .i64 f1, .int .i64 f2, .int .i64 f3, .bool f4, .int .i64 f5, .int .i64 f6, .bool f7, .int .i64 f8] 71 (0, 0)) ∧ w0.heap.size ≤ g
theorem IsS71.grown {w0 W : World} {g : Nat} {f0 : Int} {f1 : Int} {f2 : Int} {f3 : Int} {f4 : Bool} {f5 : Int} {f6 : Int} {f7 : Bool} {f8 : Int} {W1 : World} {row : Option Nat} (h : IsS71 w0 W g f0 f1 f2 f3 f4 f5 f6 f7 f8) (hw : W.grownBy W1 row) (hne : some g ≠ row) : IsS71 w0 W1 g f0 f1 f2 f3 f4 f5 f6 f7 f8 := by
 obtain ⟨hb, hg⟩ := h
 exact ⟨blk_grown hb hw hne, hg⟩
theorem IsS71.keepS {w0 W : World} {g : Nat} {f0 : Int} {f1 : Int} {f2 : Int} {f3 : Int} {f4 : Bool} {f5 : Int} {f6 : Int} {f7 : Bool} {f8 : Int} {W1 : World} {g' : Nat} (h : IsS71 w0 W g f0 f1 f2 f3 f4 f5 f6 f7 f8) (hk : KeepBut W W1 g' none) (hne : g ≠ g') : IsS71 w0 W1 g f0 f1 f2 f3 f4 f5 f6 f7 f8 := by
 obtain ⟨hb, hg⟩ := h
 exact ⟨KeepBut.blk hk hb hne (by simp), hg⟩
theorem IsS71.blk {w0 W : World} {g : Nat} {f0 : Int} {f1 : Int} {f2 : Int} {f3 : Int} {f4 : Bool} {f5 : Int} {f6 : Int} {f7 : Bool} {f8 : Int} (h : IsS71 w0 W g f0 f1 f2 f3 f4 f5 f6 f7 f8) : ∃ cs, W.heap[g]? = some (.cells cs 71 (0, 0)) := by
 obtain ⟨hb, hg⟩ := h
 exact ⟨_, hb⟩
theorem IsS71.below {w0 W : World} {g : Nat} {f0 : Int} {f1 : Int} {f2 : Int} {f3 : Int} {f4 : Bool} {f5 : Int} {f6 : Int} {f7 : Bool} {f8 : Int} {W1 : World} (h : IsS71 w0 W g f0 f1 f2 f3 f4 f5 f6 f7 f8) (hw : Below W.heap.size W W1) : IsS71 w0 W1 g f0 f1 f2 f3 f4 f5 f6 f7 f8 := h.grown (grown_of_below hw none) (by simp)
theorem IsS71.alloc {w0 W : World} {g : Nat} {f0 : Int} {f1 : Int} {f2 : Int} {f3 : Int} {f4 : Bool} {f5 : Int} {f6 : Int} {f7 : Bool} {f8 : Int} (h : IsS71 w0 W g f0 f1 f2 f3 f4 f5 f6 f7 f8) (o : Obj) : IsS71 w0 (W.alloc o) g f0 f1 f2 f3 f4 f5 f6 f7 f8 := h.below (below_alloc (Below.refl _ _) o)
theorem IsS71.drewN {w0 W : World} {g : Nat} {f0 : Int} {f1 : Int} {f2 : Int} {f3 : Int} {f4 : Bool} {f5 : Int} {f6 : Int} {f7 : Bool} {f8 : Int} (h : IsS71 w0 W g f0 f1 f2 f3 f4 f5 f6 f7 f8) (m : Nat) : IsS71 w0 (W.drewN m) g f0 f1 f2 f3 f4 f5 f6 f7 f8 := h
theorem IsS71.drew {w0 W : World} {g : Nat} {f0 : Int} {f1 : Int} {f2 : Int} {f3 : Int} {f4 : Bool} {f5 : Int} {f6 : Int} {f7 : Bool} {f8 : Int} (h : IsS71 w0 W g f0 f1 f2 f3 f4 f5 f6 f7 f8) : IsS71 w0 W.drew g f0 f1 f2 f3 f4 f5 f6 f7 f8 := h
theorem IsS71.lt {w0 W : World} {g : Nat} {f0 : Int} {f1 : Int} {f2 : Int} {f3 : Int} {f4 : Bool} {f5 : Int} {f6 : Int} {f7 : Bool} {f8 : Int} (h : IsS71 w0 W g f0 f1 f2 f3 f4 f5 f6 f7 f8) : g < W.heap.size := by
 obtain ⟨hb, hg⟩ := h
 exact blk_lt hb
theorem IsS71.ge {w0 W : World} {g : Nat} {f0 : Int} {f1 : Int} {f2 : Int} {f3 : Int} {f4 : Bool} {f5 : Int} {f6 : Int} {f7 : Bool} {f8 : Int} (h : IsS71 w0 W g f0 f1 f2 f3 f4 f5 f6 f7 f8) : w0.heap.size ≤ g := by
 obtain ⟨hb, hg⟩ := h
 exact hg
theorem IsS71.ne_blk {w0 W : World} {g : Nat} {f0 : Int} {f1 : Int} {f2 : Int} {f3 : Int} {f4 : Bool} {f5 : Int} {f6 : Int} {f7 : Bool} {f8 : Int} {a : Nat} {cs : Array Value} {t : TypeId} {fr : Nat × Nat} (h : IsS71 w0 W g f0 f1 f2 f3 f4 f5 f6 f7 f8) (hb2 : W.heap[a]? = some (.cells cs t fr)) (ht : t ≠ 71) : g ≠ a := by
 obtain ⟨hb, hg⟩ := h
 rintro rfl
 rw [hb] at hb2
 injection hb2 with hb2
 injection hb2 with _ ht2
 exact ht ht2.symm
theorem IsS71.far {w0 W : World} {g : Nat} {f0 : Int} {f1 : Int} {f2 : Int} {f3 : Int} {f4 : Bool} {f5 : Int} {f6 : Int} {f7 : Bool} {f8 : Int} {p : Addr} (h : IsS71 w0 W g f0 f1 f2 f3 f4 f5 f6 f7 f8) (hne : g ≠ p.block) (u : Value) : IsS71 w0 (W.setCell p u) g f0 f1 f2 f3 f4 f5 f6 f7 f8 := by
 obtain ⟨hb, hg⟩ := h
 exact ⟨blk_far hb hne u, hg⟩
theorem IsS71.cell_0 {w0 W : World} {g : Nat} {f0 : Int} {f1 : Int} {f2 : Int} {f3 : Int} {f4 : Bool} {f5 : Int} {f6 : Int} {f7 : Bool} {f8 : Int} (h : IsS71 w0 W g f0 f1 f2 f3 f4 f5 f6 f7 f8) : W.cell? ⟨g, 0, none⟩ = some (.int .i64 f0) := by
 obtain ⟨hb, hg⟩ := h
 exact (blk_cell hb 0).trans rfl
theorem IsS71.froz_0 {w0 W : World} {g : Nat} {f0 : Int} {f1 : Int} {f2 : Int} {f3 : Int} {f4 : Bool} {f5 : Int} {f6 : Int} {f7 : Bool} {f8 : Int} (h : IsS71 w0 W g f0 f1 f2 f3 f4 f5 f6 f7 f8) : W.frozen? ⟨g, 0, none⟩ = false := by
 obtain ⟨hb, hg⟩ := h
 exact blk_frozen hb 0
theorem IsS71.cell_1 {w0 W : World} {g : Nat} {f0 : Int} {f1 : Int} {f2 : Int} {f3 : Int} {f4 : Bool} {f5 : Int} {f6 : Int} {f7 : Bool} {f8 : Int} (h : IsS71 w0 W g f0 f1 f2 f3 f4 f5 f6 f7 f8) : W.cell? ⟨g, 1, none⟩ = some (.int .i64 f1) := by
 obtain ⟨hb, hg⟩ := h
 exact (blk_cell hb 1).trans rfl
theorem IsS71.cell_2 {w0 W : World} {g : Nat} {f0 : Int} {f1 : Int} {f2 : Int} {f3 : Int} {f4 : Bool} {f5 : Int} {f6 : Int} {f7 : Bool} {f8 : Int} (h : IsS71 w0 W g f0 f1 f2 f3 f4 f5 f6 f7 f8) : W.cell? ⟨g, 2, none⟩ = some (.int .i64 f2) := by
 obtain ⟨hb, hg⟩ := h
 exact (blk_cell hb 2).trans rfl
theorem IsS71.cell_3 {w0 W : World} {g : Nat} {f0 : Int} {f1 : Int} {f2 : Int} {f3 : Int} {f4 : Bool} {f5 : Int} {f6 : Int} {f7 : Bool} {f8 : Int} (h : IsS71 w0 W g f0 f1 f2 f3 f4 f5 f6 f7 f8) : W.cell? ⟨g, 3, none⟩ = some (.int .i64 f3) := by
 obtain ⟨hb, hg⟩ := h
 exact (blk_cell hb 3).trans rfl
theorem IsS71.cell_4 {w0 W : World} {g : Nat} {f0 : Int} {f1 : Int} {f2 : Int} {f3 : Int} {f4 : Bool} {f5 : Int} {f6 : Int} {f7 : Bool} {f8 : Int} (h : IsS71 w0 W g f0 f1 f2 f3 f4 f5 f6 f7 f8) : W.cell? ⟨g, 4, none⟩ = some (.bool f4) := by
 obtain ⟨hb, hg⟩ := h
 exact (blk_cell hb 4).trans rfl
theorem IsS71.cell_5 {w0 W : World} {g : Nat} {f0 : Int} {f1 : Int} {f2 : Int} {f3 : Int} {f4 : Bool} {f5 : Int} {f6 : Int} {f7 : Bool} {f8 : Int} (h : IsS71 w0 W g f0 f1 f2 f3 f4 f5 f6 f7 f8) : W.cell? ⟨g, 5, none⟩ = some (.int .i64 f5) := by
 obtain ⟨hb, hg⟩ := h
 exact (blk_cell hb 5).trans rfl
theorem IsS71.froz_5 {w0 W : World} {g : Nat} {f0 : Int} {f1 : Int} {f2 : Int} {f3 : Int} {f4 : Bool} {f5 : Int} {f6 : Int} {f7 : Bool} {f8 : Int} (h : IsS71 w0 W g f0 f1 f2 f3 f4 f5 f6 f7 f8) : W.frozen? ⟨g, 5, none⟩ = false := by
 obtain ⟨hb, hg⟩ := h
 exact blk_frozen hb 5
theorem IsS71.cell_6 {w0 W : World} {g : Nat} {f0 : Int} {f1 : Int} {f2 : Int} {f3 : Int} {f4 : Bool} {f5 : Int} {f6 : Int} {f7 : Bool} {f8 : Int} (h : IsS71 w0 W g f0 f1 f2 f3 f4 f5 f6 f7 f8) : W.cell? ⟨g, 6, none⟩ = some (.int .i64 f6) := by
 obtain ⟨hb, hg⟩ := h
 exact (blk_cell hb 6).trans rfl
theorem IsS71.froz_6 {w0 W : World} {g : Nat} {f0 : Int} {f1 : Int} {f2 : Int} {f3 : Int} {f4 : Bool} {f5 : Int} {f6 : Int} {f7 : Bool} {f8 : Int} (h : IsS71 w0 W g f0 f1 f2 f3 f4 f5 f6 f7 f8) : W.frozen? ⟨g, 6, none⟩ = false := by
 obtain ⟨hb, hg⟩ := h
 exact blk_frozen hb 6
theorem IsS71.cell_7 {w0 W : World} {g : Nat} {f0 : Int} {f1 : Int} {f2 : Int} {f3 : Int} {f4 : Bool} {f5 : Int} {f6 : Int} {f7 : Bool} {f8 : Int} (h : IsS71 w0 W g f0 f1 f2 f3 f4 f5 f6 f7 f8) : W.cell? ⟨g, 7, none⟩ = some (.bool f7) := by
 obtain ⟨hb, hg⟩ := h
 exact (blk_cell hb 7).trans rfl
theorem IsS71.cell_8 {w0 W : World} {g : Nat} {f0 : Int} {f1 : Int} {f2 : Int} {f3 : Int} {f4 : Bool} {f5 : Int} {f6 : Int} {f7 : Bool} {f8 : Int} (h : IsS71 w0 W g f0 f1 f2 f3 f4 f5 f6 f7 f8) : W.cell? ⟨g, 8, none⟩ = some (.int .i64 f8) := by
 obtain ⟨hb, hg⟩ := h
 exact (blk_cell hb 8).trans rfl
theorem IsS71.rebase {w0 W : World} {g : Nat} {f0 : Int} {f1 : Int} {f2 : Int} {f3 : Int} {f4 : Bool} {f5 : Int} {f6 : Int} {f7 : Bool} {f8 : Int} {w1 : World} (h : IsS71 w1 W g f0 f1 f2 f3 f4 f5 f6 f7 f8) (hl : w0.heap.size ≤ w1.heap.size) : IsS71 w0 W g f0 f1 f2 f3 f4 f5 f6 f7 f8 := by
 obtain ⟨hb, hg⟩ := h
 exact ⟨hb, Nat.le_trans hl hg⟩
theorem cellS71_0 {W : World} {g : Nat} {f0 : Int} {f1 : Int} {f2 : Int} {f3 : Int} {f4 : Bool} {f5 : Int} {f6 : Int} {f7 : Bool} {f8 : Int} (h : W.heap[g]? = some (.cells #[.int .i64 f0, .int .i64 f1, .int .i64 f2, .int .i64 f3, .bool f4, .int .i64 f5, .int .i64 f6, .bool f7, .int .i64 f8] 71 (0, 0))) : W.cell? ⟨g, 0, none⟩ = some (.int .i64 f0) := (blk_cell h 0).trans rfl
theorem IsS71.set_0 {w0 W : World} {g : Nat} {f0 : Int} {f1 : Int} {f2 : Int} {f3 : Int} {f4 : Bool} {f5 : Int} {f6 : Int} {f7 : Bool} {f8 : Int} (h : IsS71 w0 W g f0 f1 f2 f3 f4 f5 f6 f7 f8) (x : Int) : IsS71 w0 (W.setCell ⟨g, 0, none⟩ (.int .i64 x)) g x f1 f2 f3 f4 f5 f6 f7 f8 := by
 obtain ⟨hb, hg⟩ := h
 exact ⟨by simpa using blk_set hb 0 (.int .i64 x), hg⟩
theorem cellS71_1 {W : World} {g : Nat} {f0 : Int} {f1 : Int} {f2 : Int} {f3 : Int} {f4 : Bool} {f5 : Int} {f6 : Int} {f7 : Bool} {f8 : Int} (h : W.heap[g]? = some (.cells #[.int .i64 f0, .int .i64 f1, .int .i64 f2, .int .i64 f3, .bool f4, .int .i64 f5, .int .i64 f6, .bool f7, .int .i64 f8] 71 (0, 0))) : W.cell? ⟨g, 1, none⟩ = some (.int .i64 f1) := (blk_cell h 1).trans rfl
theorem IsS71.set_1 {w0 W : World} {g : Nat} {f0 : Int} {f1 : Int} {f2 : Int} {f3 : Int} {f4 : Bool} {f5 : Int} {f6 : Int} {f7 : Bool} {f8 : Int} (h : IsS71 w0 W g f0 f1 f2 f3 f4 f5 f6 f7 f8) (x : Int) : IsS71 w0 (W.setCell ⟨g, 1, none⟩ (.int .i64 x)) g f0 x f2 f3 f4 f5 f6 f7 f8 := by
 obtain ⟨hb, hg⟩ := h
 exact ⟨by simpa using blk_set hb 1 (.int .i64 x), hg⟩
theorem cellS71_2 {W : World} {g : Nat} {f0 : Int} {f1 : Int} {f2 : Int} {f3 : Int} {f4 : Bool} {f5 : Int} {f6 : Int} {f7 : Bool} {f8 : Int} (h : W.heap[g]? = some (.cells #[.int .i64 f0, .int .i64 f1, .int .i64 f2, .int .i64 f3, .bool f4, .int .i64 f5, .int .i64 f6, .bool f7, .int .i64 f8] 71 (0, 0))) : W.cell? ⟨g, 2, none⟩ = some (.int .i64 f2) := (blk_cell h 2).trans rfl
theorem IsS71.set_2 {w0 W : World} {g : Nat} {f0 : Int} {f1 : Int} {f2 : Int} {f3 : Int} {f4 : Bool} {f5 : Int} {f6 : Int} {f7 : Bool} {f8 : Int} (h : IsS71 w0 W g f0 f1 f2 f3 f4 f5 f6 f7 f8) (x : Int) : IsS71 w0 (W.setCell ⟨g, 2, none⟩ (.int .i64 x)) g f0 f1 x f3 f4 f5 f6 f7 f8 := by
 obtain ⟨hb, hg⟩ := h
 exact ⟨by simpa using blk_set hb 2 (.int .i64 x), hg⟩
theorem cellS71_3 {W : World} {g : Nat} {f0 : Int} {f1 : Int} {f2 : Int} {f3 : Int} {f4 : Bool} {f5 : Int} {f6 : Int} {f7 : Bool} {f8 : Int} (h : W.heap[g]? = some (.cells #[.int .i64 f0, .int .i64 f1, .int .i64 f2, .int .i64 f3, .bool f4, .int .i64 f5, .int .i64 f6, .bool f7, .int .i64 f8] 71 (0, 0))) : W.cell? ⟨g, 3, none⟩ = some (.int .i64 f3) := (blk_cell h 3).trans rfl
theorem IsS71.set_3 {w0 W : World} {g : Nat} {f0 : Int} {f1 : Int} {f2 : Int} {f3 : Int} {f4 : Bool} {f5 : Int} {f6 : Int} {f7 : Bool} {f8 : Int} (h : IsS71 w0 W g f0 f1 f2 f3 f4 f5 f6 f7 f8) (x : Int) : IsS71 w0 (W.setCell ⟨g, 3, none⟩ (.int .i64 x)) g f0 f1 f2 x f4 f5 f6 f7 f8 := by
 obtain ⟨hb, hg⟩ := h
 exact ⟨by simpa using blk_set hb 3 (.int .i64 x), hg⟩
theorem cellS71_4 {W : World} {g : Nat} {f0 : Int} {f1 : Int} {f2 : Int} {f3 : Int} {f4 : Bool} {f5 : Int} {f6 : Int} {f7 : Bool} {f8 : Int} (h : W.heap[g]? = some (.cells #[.int .i64 f0, .int .i64 f1, .int .i64 f2, .int .i64 f3, .bool f4, .int .i64 f5, .int .i64 f6, .bool f7, .int .i64 f8] 71 (0, 0))) : W.cell? ⟨g, 4, none⟩ = some (.bool f4) := (blk_cell h 4).trans rfl
theorem IsS71.set_4 {w0 W : World} {g : Nat} {f0 : Int} {f1 : Int} {f2 : Int} {f3 : Int} {f4 : Bool} {f5 : Int} {f6 : Int} {f7 : Bool} {f8 : Int} (h : IsS71 w0 W g f0 f1 f2 f3 f4 f5 f6 f7 f8) (x : Bool) : IsS71 w0 (W.setCell ⟨g, 4, none⟩ (.bool x)) g f0 f1 f2 f3 x f5 f6 f7 f8 := by
 obtain ⟨hb, hg⟩ := h
 exact ⟨by simpa using blk_set hb 4 (.bool x), hg⟩
theorem cellS71_5 {W : World} {g : Nat} {f0 : Int} {f1 : Int} {f2 : Int} {f3 : Int} {f4 : Bool} {f5 : Int} {f6 : Int} {f7 : Bool} {f8 : Int} (h : W.heap[g]? = some (.cells #[.int .i64 f0, .int .i64 f1, .int .i64 f2, .int .i64 f3, .bool f4, .int .i64 f5, .int .i64 f6, .bool f7, .int .i64 f8] 71 (0, 0))) : W.cell? ⟨g, 5, none⟩ = some (.int .i64 f5) := (blk_cell h 5).trans rfl
theorem IsS71.set_5 {w0 W : World} {g : Nat} {f0 : Int} {f1 : Int} {f2 : Int} {f3 : Int} {f4 : Bool} {f5 : Int} {f6 : Int} {f7 : Bool} {f8 : Int} (h : IsS71 w0 W g f0 f1 f2 f3 f4 f5 f6 f7 f8) (x : Int) : IsS71 w0 (W.setCell ⟨g, 5, none⟩ (.int .i64 x)) g f0 f1 f2 f3 f4 x f6 f7 f8 := by
 obtain ⟨hb, hg⟩ := h
 exact ⟨by simpa using blk_set hb 5 (.int .i64 x), hg⟩
theorem cellS71_6 {W : World} {g : Nat} {f0 : Int} {f1 : Int} {f2 : Int} {f3 : Int} {f4 : Bool} {f5 : Int} {f6 : Int} {f7 : Bool} {f8 : Int} (h : W.heap[g]? = some (.cells #[.int .i64 f0, .int .i64 f1, .int .i64 f2, .int .i64 f3, .bool f4, .int .i64 f5, .int .i64 f6, .bool f7, .int .i64 f8] 71 (0, 0))) : W.cell? ⟨g, 6, none⟩ = some (.int .i64 f6) := (blk_cell h 6).trans rfl
theorem IsS71.set_6 {w0 W : World} {g : Nat} {f0 : Int} {f1 : Int} {f2 : Int} {f3 : Int} {f4 : Bool} {f5 : Int} {f6 : Int} {f7 : Bool} {f8 : Int} (h : IsS71 w0 W g f0 f1 f2 f3 f4 f5 f6 f7 f8) (x : Int) : IsS71 w0 (W.setCell ⟨g, 6, none⟩ (.int .i64 x)) g f0 f1 f2 f3 f4 f5 x f7 f8 := by
 obtain ⟨hb, hg⟩ := h
 exact ⟨by simpa using blk_set hb 6 (.int .i64 x), hg⟩
theorem cellS71_7 {W : World} {g : Nat} {f0 : Int} {f1 : Int} {f2 : Int} {f3 : Int} {f4 : Bool} {f5 : Int} {f6 : Int} {f7 : Bool} {f8 : Int} (h : W.heap[g]? = some (.cells #[.int .i64 f0, .int .i64 f1, .int .i64 f2, .int .i64 f3, .bool f4, .int .i64 f5, .int .i64 f6, .bool f7, .int .i64 f8] 71 (0, 0))) : W.cell? ⟨g, 7, none⟩ = some (.bool f7) := (blk_cell h 7).trans rfl
theorem IsS71.set_7 {w0 W : World} {g : Nat} {f0 : Int} {f1 : Int} {f2 : Int} {f3 : Int} {f4 : Bool} {f5 : Int} {f6 : Int} {f7 : Bool} {f8 : Int} (h : IsS71 w0 W g f0 f1 f2 f3 f4 f5 f6 f7 f8) (x : Bool) : IsS71 w0 (W.setCell ⟨g, 7, none⟩ (.bool x)) g f0 f1 f2 f3 f4 f5 f6 x f8 := by
 obtain ⟨hb, hg⟩ := h
 exact ⟨by simpa using blk_set hb 7 (.bool x), hg⟩
theorem cellS71_8 {W : World} {g : Nat} {f0 : Int} {f1 : Int} {f2 : Int} {f3 : Int} {f4 : Bool} {f5 : Int} {f6 : Int} {f7 : Bool} {f8 : Int} (h : W.heap[g]? = some (.cells #[.int .i64 f0, .int .i64 f1, .int .i64 f2, .int .i64 f3, .bool f4, .int .i64 f5, .int .i64 f6, .bool f7, .int .i64 f8] 71 (0, 0))) : W.cell? ⟨g, 8, none⟩ = some (.int .i64 f8) := (blk_cell h 8).trans rfl
theorem IsS71.set_8 {w0 W : World} {g : Nat} {f0 : Int} {f1 : Int} {f2 : Int} {f3 : Int} {f4 : Bool} {f5 : Int} {f6 : Int} {f7 : Bool} {f8 : Int} (h : IsS71 w0 W g f0 f1 f2 f3 f4 f5 f6 f7 f8) (x : Int) : IsS71 w0 (W.setCell ⟨g, 8, none⟩ (.int .i64 x)) g f0 f1 f2 f3 f4 f5 f6 f7 x := by
 obtain ⟨hb, hg⟩ := h
 exact ⟨by simpa using blk_set hb 8 (.int .i64 x), hg⟩
def flywheelref19_New.made.f (a0 : Int) (a1 : Int) (a2 : Int) : Option (Int × Int × Int × Int × Bool × Int × Int × Bool × Int × Int) := (flywheelref19_Rates.f a0 a1 a2).bind fun t320 => (if t320 = true then (some (a0, a1, a2, 0, false, 0, 0, false, 0, 0)) else (none))
set_option maxHeartbeats 8000000 in
set_option maxRecDepth 100000 in
theorem flywheelref19_New.made.calls (a0 : Int) (a1 : Int) (a2 : Int) (r1 : Int) (r2 : Int) (r3 : Int) (r4 : Int) (r5 : Bool) (r6 : Int) (r7 : Int) (r8 : Bool) (r9 : Int) (r10 : Int) (w0 w : World) (hB : Below w0.heap.size w0 w) (h : flywheelref19_New.made.f a0 a1 a2 = some (r1, r2, r3, r4, r5, r6, r7, r8, r9, r10)) :
  Calls Try.prog 20 #[.int .i64 a0, .int .i64 a1, .int .i64 a2] w fun e w' => ∃ g_ : Nat, e = .returned (.tuple #[.pointer (some ⟨g_, 0, none⟩), .int .i64 r10]) ∧ IsS71 w0 w' g_ r1 r2 r3 r4 r5 r6 r7 r8 r9 ∧ Below w0.heap.size w0 w' ∧ Below w.heap.size w w' := by
 have hu71 := Try.underlying71
 have HBW := Aside0.mk (Below.refl w.heap.size w)
 have HW0 := Aside0.mk hB.size
 have HB := Aside0.mk hB
 clear hB
 have H : ((flywheelref19_Rates.f a0 a1 a2).bind fun t320 => (if t320 = true then (some (a0, a1, a2, 0, false, 0, 0, false, 0, 0)) else (none))) = some (r1, r2, r3, r4, r5, r6, r7, r8, r9, r10) := h
 clear h
 replace H := Option.bind_eq_some_iff.mp H
 obtain ⟨t320, A40, H⟩ := H
 replace H : (if t320 = true then (some (a0, a1, a2, 0, false, 0, 0, false, 0, 0)) else (none)) = some (r1, r2, r3, r4, r5, r6, r7, r8, r9, r10) := H
 have A4 := Aside0.mk A40
 clear A40
 by_cases c5 : t320 = true
 ·subst c5
  have H1 : (some (a0, a1, a2, 0, false, 0, 0, false, 0, 0)) = some (r1, r2, r3, r4, r5, r6, r7, r8, r9, r10) := by rw [if_pos rfl] at H; exact H
  clear H
  have H := H1
  clear H1
  simp only [Option.some.injEq, Prod.mk.injEq] at H
  obtain ⟨rfl, rfl, rfl, rfl, rfl, rfl, rfl, rfl, rfl, rfl⟩ := H
  go_enter Try.func20, Try.ntmps20
  go_wp2_with (first | ((with_reducible refine gate_callee (f := 15) rfl ?_); refine goesL_ (some 11) rfl rfl Try.func15 (by kernel_rfl) rfl #[.int .i64 a0, .int .i64 a1, .int .i64 a2] rfl (by (try simp only [List.map_toArray, List.map_cons, List.map_nil]); first | done | rfl | (simp only [List.length_drop, List.length_take]; rfl)) ?_; (with_reducible refine (flywheelref19_Rates.calls a0 a1 a2 true _ A4.out).mono ?_); rintro e w' ⟨rfl, ⟨nd, rfl⟩⟩; refine ⟨_, rfl, ?_⟩) | ((with_reducible refine gate_dst (N := 17) rfl ?_); refine box_event ?hg (N := 17) ?hd (cs := #[.int .i64 a0, .int .i64 a1, .int .i64 a2, .int .i64 0, .bool false, .int .i64 0, .int .i64 0, .bool false, .int .i64 0]) (t := 71) ?hr ?_; (case hd => rfl); (case hg => rfl); (case hr => first | (go_simp; done) | (go_simp; rfl)); intro gb321 hg w6 hbox hb; have n0_ := Aside0.mk (below_step (by repeat (first | (with_reducible first | exact HBW.out | apply below_alloc | apply pw_below_drewN | apply below_drew1) | exact HBW.out)) hb); have n1_ := Aside0.mk (below_step (by repeat (first | (with_reducible first | exact HB.out | apply below_alloc | apply pw_below_drewN | apply below_drew1) | exact HB.out)) hb); have n2_ := Aside0.mk (hbox); have n3_ := Aside0.mk ((by rw [hg]; exact (below_size (by repeat (first | (with_reducible first | exact HBW.out | apply below_alloc | apply pw_below_drewN | apply below_drew1) | exact HBW.out))) : w.heap.size ≤ gb321)); have n4_ := Aside0.mk ((Nat.le_trans HW0.out (by rw [hg]; exact (below_size (by repeat (first | (with_reducible first | exact HBW.out | apply below_alloc | apply pw_below_drewN | apply below_drew1) | exact HBW.out))) : w.heap.size ≤ gb321) : w0.heap.size ≤ gb321)); clear HBW; clear HB; have HBW := n0_; have HB := n1_; have BK321 := n2_; have GW321 := n3_; have GE321 := n4_; clear n0_ n1_ n2_ n3_ n4_; clear hb hbox hg))
  go_ret2
  exact ⟨_, rfl, (show IsS71 w0 _ gb321 a0 a1 a2 0 false 0 0 false 0 from ⟨by (with_reducible repeat (first | refine blk_drewN ?_ _ | refine blk_drew ?_ | refine blk_alloc ?_ _)); exact BK321.out, GE321.out⟩), by repeat (first | (with_reducible first | exact HB.out | apply below_alloc | apply pw_below_drewN | apply below_drew1 | refine below_set ?_ GE321.out) | exact HB.out), by repeat (first | (with_reducible first | exact HBW.out | apply below_alloc | apply pw_below_drewN | apply below_drew1 | refine below_set ?_ GW321.out) | exact HBW.out)⟩
 ·replace c5 := Bool.eq_false_iff.mpr c5
  subst c5
  have H1 : (none) = some (r1, r2, r3, r4, r5, r6, r7, r8, r9, r10) := by rw [if_neg (show ¬ (false = true) by decide)] at H; exact H
  clear H
  have H := H1
  clear H1
  exact absurd H (by simp)
def flywheelref19_New.nil.f (a0 : Int) (a1 : Int) (a2 : Int) : Option (Int) := (flywheelref19_Rates.f a0 a1 a2).bind fun t322 => (if t322 = true then (none) else (some 1))
set_option maxHeartbeats 8000000 in
set_option maxRecDepth 100000 in
theorem flywheelref19_New.nil.calls (a0 : Int) (a1 : Int) (a2 : Int) (r : Int) (w : World) (h : flywheelref19_New.nil.f a0 a1 a2 = some r) :
  Calls Try.prog 20 #[.int .i64 a0, .int .i64 a1, .int .i64 a2] w fun e w' => e = .returned (.tuple #[.pointer none, .int .i64 r]) ∧ Below w.heap.size w w' := by
 have hu71 := Try.underlying71
 have HB := Aside0.mk (Below.refl w.heap.size w)
 have H : ((flywheelref19_Rates.f a0 a1 a2).bind fun t322 => (if t322 = true then (none) else (some 1))) = some r := h
 clear h
 replace H := Option.bind_eq_some_iff.mp H
 obtain ⟨t322, A40, H⟩ := H
 replace H : (if t322 = true then (none) else (some 1)) = some r := H
 have A4 := Aside0.mk A40
 clear A40
 by_cases c5 : t322 = true
 ·subst c5
  have H1 : (none) = some r := by rw [if_pos rfl] at H; exact H
  clear H
  have H := H1
  clear H1
  exact absurd H (by simp)
 ·replace c5 := Bool.eq_false_iff.mpr c5
  subst c5
  have H1 : (some 1) = some r := by rw [if_neg (show ¬ (false = true) by decide)] at H; exact H
  clear H
  have H := H1
  clear H1
  obtain rfl := Option.some.inj H
  go_enter Try.func20, Try.ntmps20
  go_wp2_with (first | ((with_reducible refine gate_callee (f := 15) rfl ?_); refine goesL_ (some 11) rfl rfl Try.func15 (by kernel_rfl) rfl #[.int .i64 a0, .int .i64 a1, .int .i64 a2] rfl (by (try simp only [List.map_toArray, List.map_cons, List.map_nil]); first | done | rfl | (simp only [List.length_drop, List.length_take]; rfl)) ?_; (with_reducible refine (flywheelref19_Rates.calls a0 a1 a2 false _ A4.out).mono ?_); rintro e w' ⟨rfl, ⟨nd, rfl⟩⟩; refine ⟨_, rfl, ?_⟩))
  go_ret2
  exact ⟨by first | rfl | (simp [errW_none, errW_some] <;> rfl) | (simp [*, errW_none, errW_some] <;> rfl), by repeat (first | (with_reducible first | exact HB.out | apply below_alloc | apply pw_below_drewN | apply below_drew1) | exact HB.out)⟩
def flywheelref01_Clamp.f (a0 : Int) (a1 : Int) (a2 : Int) : Option (Int) := if a0 < a1 then (some a1) else (if a0 > a2 then (some a2) else (some a0))
set_option maxHeartbeats 8000000 in
set_option maxRecDepth 100000 in
theorem flywheelref01_Clamp.calls (a0 : Int) (a1 : Int) (a2 : Int) (r : Int) (w : World) (h : flywheelref01_Clamp.f a0 a1 a2 = some r) :
  Calls Try.prog 40 #[.int .i64 a0, .int .i64 a1, .int .i64 a2] w fun e w' => e = .returned (.int .i64 r) ∧ Drawn0 w w' := by
 have H : (if a0 < a1 then (some a1) else (if a0 > a2 then (some a2) else (some a0))) = some r := h
 clear h
 by_cases c4 : a0 < a1
 ·rw [if_pos c4] at H
  have c4b0 : decide (a0 < a1) = true := decide_eq_true c4
  clear c4
  obtain rfl := Option.some.inj H
  go_enter Try.func40, Try.ntmps40
  go_wp2
  go_ret
  exact ⟨by first | rfl | (simp; done) | (simp [*]; done), by repeat (first | exact Drawn0.refl _ | apply Drawn0.step)⟩
 ·rw [if_neg c4] at H
  have c4b0 : decide (a0 < a1) = false := decide_eq_false c4
  clear c4
  by_cases c5 : a0 > a2
  ·rw [if_pos c5] at H
   have c5b0 : decide (a2 < a0) = true := decide_eq_true c5
   clear c5
   obtain rfl := Option.some.inj H
   go_enter Try.func40, Try.ntmps40
   go_wp2
   go_ret
   exact ⟨by first | rfl | (simp; done) | (simp [*]; done), by repeat (first | exact Drawn0.refl _ | apply Drawn0.step)⟩
  ·rw [if_neg c5] at H
   have c5b0 : decide (a2 < a0) = false := decide_eq_false c5
   clear c5
   obtain rfl := Option.some.inj H
   go_enter Try.func40, Try.ntmps40
   go_wp2
   go_ret
   exact ⟨by first | rfl | (simp; done) | (simp [*]; done), by repeat (first | exact Drawn0.refl _ | apply Drawn0.step)⟩
end Go.Proofs.Ytaelmmbodigheaa.P
end

section
namespace Go.Proofs.Ytaelmmbodigheaa.P
open Go.RowKit Go.Proofs.YtaelmmbodigheaaW.PrintWords Go.Proofs.YtaelmmbodigheaaW.PrintLast Go.Proofs.YtaelmmbodigheaaW.PrintMore
attribute [local go_sem] max2_int min2_int max_two min_two max_three min_three max_four min_four   -- for this text's walks alone
set_option linter.unusedVariables false
set_option linter.unusedSimpArgs false
def flywheelref02_part.l0 : Nat → Int → Int → Int → Int → Int → Bool → Int → Option (Int × Bool × Int)
 | 0, _, _, _, _, _, _, _ => none
 | k + 1, x1, x6, x325000, x325001, x327000, x327001, x327002 => if x6 ≥ 0 then (if x327001 = true then (if (IntKind.u64.wrap ((IntKind.u64.wrap (x327002 * 2)) + (x325000 / 9223372036854775808))) ≥ x1 then (flywheelref02_part.l0 k x1 (wrap64 (x6 - 1)) (IntKind.u64.wrap ((IntKind.u64.wrap (x325000 * 2)) + (x325001 / 9223372036854775808))) (IntKind.u64.wrap (x325001 * 2)) (IntKind.u64.wrap ((IntKind.u64.wrap (x327000 * 2)) + 1)) true (IntKind.u64.wrap ((IntKind.u64.wrap ((IntKind.u64.wrap (x327002 * 2)) + (x325000 / 9223372036854775808))) - x1))) else (flywheelref02_part.l0 k x1 (wrap64 (x6 - 1)) (IntKind.u64.wrap ((IntKind.u64.wrap (x325000 * 2)) + (x325001 / 9223372036854775808))) (IntKind.u64.wrap (x325001 * 2)) (IntKind.u64.wrap (x327000 * 2)) true (IntKind.u64.wrap ((IntKind.u64.wrap (x327002 * 2)) + (x325000 / 9223372036854775808))))) else (if (IntKind.u64.wrap ((IntKind.u64.wrap (x327002 * 2)) + (x325000 / 9223372036854775808))) ≥ x1 then (flywheelref02_part.l0 k x1 (wrap64 (x6 - 1)) (IntKind.u64.wrap ((IntKind.u64.wrap (x325000 * 2)) + (x325001 / 9223372036854775808))) (IntKind.u64.wrap (x325001 * 2)) (IntKind.u64.wrap ((IntKind.u64.wrap (x327000 * 2)) + 1)) ((x327000 / 9223372036854775808) == 1) (IntKind.u64.wrap ((IntKind.u64.wrap ((IntKind.u64.wrap (x327002 * 2)) + (x325000 / 9223372036854775808))) - x1))) else (flywheelref02_part.l0 k x1 (wrap64 (x6 - 1)) (IntKind.u64.wrap ((IntKind.u64.wrap (x325000 * 2)) + (x325001 / 9223372036854775808))) (IntKind.u64.wrap (x325001 * 2)) (IntKind.u64.wrap (x327000 * 2)) ((x327000 / 9223372036854775808) == 1) (IntKind.u64.wrap ((IntKind.u64.wrap (x327002 * 2)) + (x325000 / 9223372036854775808)))))) else (some (x327000, x327001, x327002))
def flywheelref02_part.f (k : Nat) (a0_0 : Int) (a0_1 : Int) (a1 : Int) : Option (Int × Bool × Int) := flywheelref02_part.l0 k a1 127 a0_0 a0_1 0 false 0
set_option maxHeartbeats 8000000 in
set_option maxRecDepth 100000 in
theorem flywheelref02_part.calls (k : Nat) (a0_0 : Int) (a0_1 : Int) (a1 : Int) (r1 : Int) (r2 : Bool) (r3 : Int) (w : World) (h : flywheelref02_part.f k a0_0 a0_1 a1 = some (r1, r2, r3)) :
  Calls Try.prog 61 #[.agg #[.int .u64 a0_0, .int .u64 a0_1], .int .u64 a1] w fun e w' => e = .returned (.agg #[.int .u64 r1, .bool r2, .int .u64 r3]) ∧ Below w.heap.size w w' := by
 have hu97 := Try.underlying97
 have hu94 := Try.underlying94
 have HB := Aside0.mk (Below.refl w.heap.size w)
 have H : (flywheelref02_part.l0 k a1 127 a0_0 a0_1 0 false 0) = some (r1, r2, r3) := h
 clear h
 have H' := Aside0.mk H
 clear H
 go_enter Try.func61, Try.ntmps61
 go_wp2_with (first | ((with_reducible refine gate_dst (N := 2) rfl ?_); refine box_event ?hg (N := 2) ?hd (cs := #[.int .u64 a0_0, .int .u64 a0_1]) (t := 97) ?hr ?_; (case hd => rfl); (case hg => rfl); (case hr => first | (go_simp; done) | (go_simp; rfl)); intro gb324 hg w3 hbox hb; have n0_ := Aside0.mk (below_step (by repeat (first | (with_reducible first | exact HB.out | apply below_alloc | apply pw_below_drewN | apply below_drew1) | exact HB.out)) hb); have n1_ := Aside0.mk (hbox); have n2_ := Aside0.mk ((by rw [hg]; exact (below_size (by repeat (first | (with_reducible first | exact HB.out | apply below_alloc | apply pw_below_drewN | apply below_drew1) | exact HB.out))) : w.heap.size ≤ gb324)); have n3_ := Aside0.mk ((by rw [hg]; exact (below_size (by repeat (first | (with_reducible first | exact HB.out | apply below_alloc | apply pw_below_drewN | apply below_drew1) | exact HB.out))) : w.heap.size ≤ gb324)); clear HB; have HB := n0_; have BK324 := n1_; have GW324 := n2_; have GE324 := n3_; clear n0_ n1_ n2_ n3_; clear hb hbox hg) | ((with_reducible refine gate_dst (N := 4) rfl ?_); refine box_event ?hg (N := 4) ?hd (cs := #[.int .u64 0, .bool false, .int .u64 0]) (t := 94) ?hr ?_; (case hd => rfl); (case hg => rfl); (case hr => first | (go_simp; done) | (go_simp; rfl)); intro gb325 hg w4 hbox hb; have n0_ := Aside0.mk (blk_below (g := gb324) (o := .cells #[.int .u64 a0_0, .int .u64 a0_1] 97 (0, 0)) (by (with_reducible repeat (first | refine blk_drewN ?_ _ | refine blk_drew ?_ | refine blk_alloc ?_ _)); exact BK324.out) hb); have n1_ := Aside0.mk (below_step (by repeat (first | (with_reducible first | exact HB.out | apply below_alloc | apply pw_below_drewN | apply below_drew1 | refine below_set ?_ GE324.out) | exact HB.out)) hb); have n2_ := Aside0.mk (hbox); have n3_ := Aside0.mk ((by rw [hg]; exact (below_size (by repeat (first | (with_reducible first | exact HB.out | apply below_alloc | apply pw_below_drewN | apply below_drew1 | refine below_set ?_ GE324.out) | exact HB.out))) : w.heap.size ≤ gb325)); have n4_ := Aside0.mk ((by rw [hg]; exact (below_size (by repeat (first | (with_reducible first | exact HB.out | apply below_alloc | apply pw_below_drewN | apply below_drew1 | refine below_set ?_ GE324.out) | exact HB.out))) : w.heap.size ≤ gb325)); have n5_ := Aside0.mk ((by rw [hg]; exact Nat.ne_of_lt (blk_lt (g := gb324) (o := .cells #[.int .u64 a0_0, .int .u64 a0_1] 97 (0, 0)) (by (with_reducible repeat (first | refine blk_drewN ?_ _ | refine blk_drew ?_ | refine blk_alloc ?_ _)); exact BK324.out)) : gb324 ≠ gb325)); have n6_ := Aside0.mk ((by rw [hg]; exact Nat.ne_of_gt (blk_lt (g := gb324) (o := .cells #[.int .u64 a0_0, .int .u64 a0_1] 97 (0, 0)) (by (with_reducible repeat (first | refine blk_drewN ?_ _ | refine blk_drew ?_ | refine blk_alloc ?_ _)); exact BK324.out)) : gb325 ≠ gb324)); clear BK324; clear HB; have BK324 := n0_; have HB := n1_; have BK325 := n2_; have GW325 := n3_; have GE325 := n4_; have NB324_325 := n5_; have NB325_324 := n6_; clear n0_ n1_ n2_ n3_ n4_ n5_ n6_; clear hb hbox hg) | ((with_reducible refine gate_dst (N := 5) rfl ?_); refine box_event ?hg (N := 5) ?hd (cs := #[.int .u64 0, .bool false, .int .u64 0]) (t := 94) ?hr ?_; (case hd => rfl); (case hg => rfl); (case hr => first | (go_simp; done) | (go_simp; rfl)); intro gb326 hg w5 hbox hb; have n0_ := Aside0.mk (blk_below (g := gb324) (o := .cells #[.int .u64 a0_0, .int .u64 a0_1] 97 (0, 0)) (by (with_reducible repeat (first | refine blk_drewN ?_ _ | refine blk_drew ?_ | refine blk_alloc ?_ _)); exact BK324.out) hb); have n1_ := Aside0.mk (blk_below (g := gb325) (o := .cells #[.int .u64 0, .bool false, .int .u64 0] 94 (0, 0)) (by (with_reducible repeat (first | refine blk_drewN ?_ _ | refine blk_drew ?_ | refine blk_alloc ?_ _)); exact BK325.out) hb); have n2_ := Aside0.mk (below_step (by repeat (first | (with_reducible first | exact HB.out | apply below_alloc | apply pw_below_drewN | apply below_drew1 | refine below_set ?_ GE324.out | refine below_set ?_ GE325.out) | exact HB.out)) hb); have n3_ := Aside0.mk (hbox); have n4_ := Aside0.mk ((by rw [hg]; exact (below_size (by repeat (first | (with_reducible first | exact HB.out | apply below_alloc | apply pw_below_drewN | apply below_drew1 | refine below_set ?_ GE324.out | refine below_set ?_ GE325.out) | exact HB.out))) : w.heap.size ≤ gb326)); have n5_ := Aside0.mk ((by rw [hg]; exact (below_size (by repeat (first | (with_reducible first | exact HB.out | apply below_alloc | apply pw_below_drewN | apply below_drew1 | refine below_set ?_ GE324.out | refine below_set ?_ GE325.out) | exact HB.out))) : w.heap.size ≤ gb326)); have n6_ := Aside0.mk ((by rw [hg]; exact Nat.ne_of_lt (blk_lt (g := gb324) (o := .cells #[.int .u64 a0_0, .int .u64 a0_1] 97 (0, 0)) (by (with_reducible repeat (first | refine blk_drewN ?_ _ | refine blk_drew ?_ | refine blk_alloc ?_ _)); exact BK324.out)) : gb324 ≠ gb326)); have n7_ := Aside0.mk ((by rw [hg]; exact Nat.ne_of_gt (blk_lt (g := gb324) (o := .cells #[.int .u64 a0_0, .int .u64 a0_1] 97 (0, 0)) (by (with_reducible repeat (first | refine blk_drewN ?_ _ | refine blk_drew ?_ | refine blk_alloc ?_ _)); exact BK324.out)) : gb326 ≠ gb324)); have n8_ := Aside0.mk ((by rw [hg]; exact Nat.ne_of_lt (blk_lt (g := gb325) (o := .cells #[.int .u64 0, .bool false, .int .u64 0] 94 (0, 0)) (by (with_reducible repeat (first | refine blk_drewN ?_ _ | refine blk_drew ?_ | refine blk_alloc ?_ _)); exact BK325.out)) : gb325 ≠ gb326)); have n9_ := Aside0.mk ((by rw [hg]; exact Nat.ne_of_gt (blk_lt (g := gb325) (o := .cells #[.int .u64 0, .bool false, .int .u64 0] 94 (0, 0)) (by (with_reducible repeat (first | refine blk_drewN ?_ _ | refine blk_drew ?_ | refine blk_alloc ?_ _)); exact BK325.out)) : gb326 ≠ gb325)); clear BK324; clear BK325; clear HB; have BK324 := n0_; have BK325 := n1_; have HB := n2_; have BK326 := n3_; have GW326 := n4_; have GE326 := n5_; have NB324_326 := n6_; have NB326_324 := n7_; have NB325_326 := n8_; have NB326_325 := n9_; clear n0_ n1_ n2_ n3_ n4_ n5_ n6_ n7_ n8_ n9_; clear hb hbox hg; have hnb6 := NB326_324.out; have hnc6 := NB324_326.out; have hnb7 := NB326_325.out; have hnc7 := NB325_326.out; have hcz8_0 : w5.cell? ⟨gb326, 0, none⟩ = some (.int .u64 0) := (blk_cell BK326.out 0).trans rfl; have hcz8_1 : w5.cell? ⟨gb326, 1, none⟩ = some (.bool false) := (blk_cell BK326.out 1).trans rfl; have hcz8_2 : w5.cell? ⟨gb326, 2, none⟩ = some (.int .u64 0) := (blk_cell BK326.out 2).trans rfl; have hfz8_0 := blk_frozen BK326.out 0; have hfz8_1 := blk_frozen BK326.out 1; have hfz8_2 := blk_frozen BK326.out 2))
 go_loopg [6] k (fun kq v6 w' => ∃ (x6_1 : Int) (x325000_1 : Int) (x325001_1 : Int) (x327000_1 : Int) (x327001_1 : Bool) (x327002_1 : Int), v6 = .int .i64 x6_1 ∧ Aside0 (flywheelref02_part.l0 kq a1 x6_1 x325000_1 x325001_1 x327000_1 x327001_1 x327002_1 = some (r1, r2, r3)) ∧ Aside0 (kq ≤ k) ∧ Aside0 (w'.heap[gb324]? = some (.cells #[.int .u64 x325000_1, .int .u64 x325001_1] 97 (0, 0))) ∧ Aside0 (w'.heap[gb325]? = some (.cells #[.int .u64 0, .bool false, .int .u64 0] 94 (0, 0))) ∧ Aside0 (w'.heap[gb326]? = some (.cells #[.int .u64 x327000_1, .bool x327001_1, .int .u64 x327002_1] 94 (0, 0))) ∧ Aside0 (Below w.heap.size w w'))
 case atStart => exact ⟨(127), (a0_0), (a0_1), (0), (false), (0), (by first | rfl | (simp; done) | (simp [*]; done)), H', ⟨Nat.le_refl _⟩, ⟨by (with_reducible repeat (first | refine blk_drewN ?_ _ | refine blk_drew ?_ | refine blk_alloc ?_ _)); refine blk_far ?_ NB324_326.out _; (with_reducible repeat (first | refine blk_drewN ?_ _ | refine blk_drew ?_ | refine blk_alloc ?_ _)); refine blk_far ?_ NB324_326.out _; (with_reducible repeat (first | refine blk_drewN ?_ _ | refine blk_drew ?_ | refine blk_alloc ?_ _)); refine blk_far ?_ NB324_326.out _; (with_reducible repeat (first | refine blk_drewN ?_ _ | refine blk_drew ?_ | refine blk_alloc ?_ _)); exact BK324.out⟩, ⟨by (with_reducible repeat (first | refine blk_drewN ?_ _ | refine blk_drew ?_ | refine blk_alloc ?_ _)); refine blk_far ?_ NB325_326.out _; (with_reducible repeat (first | refine blk_drewN ?_ _ | refine blk_drew ?_ | refine blk_alloc ?_ _)); refine blk_far ?_ NB325_326.out _; (with_reducible repeat (first | refine blk_drewN ?_ _ | refine blk_drew ?_ | refine blk_alloc ?_ _)); refine blk_far ?_ NB325_326.out _; (with_reducible repeat (first | refine blk_drewN ?_ _ | refine blk_drew ?_ | refine blk_alloc ?_ _)); exact BK325.out⟩, ⟨by (with_reducible repeat (first | refine blk_drewN ?_ _ | refine blk_drew ?_ | refine blk_alloc ?_ _)); refine blk_put (cs := #[.int .u64 0, .bool false, .int .u64 0]) ?_ 2 _ rfl; (with_reducible repeat (first | refine blk_drewN ?_ _ | refine blk_drew ?_ | refine blk_alloc ?_ _)); refine blk_put (cs := #[.int .u64 0, .bool false, .int .u64 0]) ?_ 1 _ rfl; (with_reducible repeat (first | refine blk_drewN ?_ _ | refine blk_drew ?_ | refine blk_alloc ?_ _)); refine blk_put (cs := #[.int .u64 0, .bool false, .int .u64 0]) ?_ 0 _ rfl; (with_reducible repeat (first | refine blk_drewN ?_ _ | refine blk_drew ?_ | refine blk_alloc ?_ _)); exact BK326.out⟩, ⟨by repeat (first | (with_reducible first | exact HB.out | apply below_alloc | apply pw_below_drewN | apply below_drew1 | refine below_set ?_ GE324.out | refine below_set ?_ GE325.out | refine below_set ?_ GE326.out) | exact HB.out)⟩⟩
 case round =>
  clear H'
  try clear p2
  try clear c6
  try clear c7
  try clear hcz8_0
  try clear hcz8_1
  try clear hcz8_2
  try clear hfz8_0
  try clear hfz8_1
  try clear hfz8_2
  obtain ⟨x6_1, x325000_1, x325001_1, x327000_1, x327001_1, x327002_1, rfl, HA, HK1, BK324, BK325, BK326, HB⟩ := hrel
  cases gk with
  | zero => exact absurd HA.out (by simp [flywheelref02_part.l0])
  | succ k1 =>
   have H := HA.out
   clear HA
   simp only [flywheelref02_part.l0] at H
   by_cases c9 : x6_1 ≥ 0
   ·rw [if_pos c9] at H
    have c9b0 : decide (0 ≤ x6_1) = true := decide_eq_true c9
    clear c9
    by_cases c10 : x327001_1 = true
    ·subst c10
     have H1 : (if (IntKind.u64.wrap ((IntKind.u64.wrap (x327002_1 * 2)) + (x325000_1 / 9223372036854775808))) ≥ a1 then (flywheelref02_part.l0 k1 a1 (wrap64 (x6_1 - 1)) (IntKind.u64.wrap ((IntKind.u64.wrap (x325000_1 * 2)) + (x325001_1 / 9223372036854775808))) (IntKind.u64.wrap (x325001_1 * 2)) (IntKind.u64.wrap ((IntKind.u64.wrap (x327000_1 * 2)) + 1)) true (IntKind.u64.wrap ((IntKind.u64.wrap ((IntKind.u64.wrap (x327002_1 * 2)) + (x325000_1 / 9223372036854775808))) - a1))) else (flywheelref02_part.l0 k1 a1 (wrap64 (x6_1 - 1)) (IntKind.u64.wrap ((IntKind.u64.wrap (x325000_1 * 2)) + (x325001_1 / 9223372036854775808))) (IntKind.u64.wrap (x325001_1 * 2)) (IntKind.u64.wrap (x327000_1 * 2)) true (IntKind.u64.wrap ((IntKind.u64.wrap (x327002_1 * 2)) + (x325000_1 / 9223372036854775808))))) = some (r1, r2, r3) := by rw [if_pos rfl] at H; exact H
     clear H
     have H := H1
     clear H1
     by_cases c11 : (IntKind.u64.wrap ((IntKind.u64.wrap (x327002_1 * 2)) + (x325000_1 / 9223372036854775808))) ≥ a1
     ·rw [if_pos c11] at H
      have c11b0 : decide (a1 ≤ (IntKind.u64.wrap ((IntKind.u64.wrap (x327002_1 * 2)) + (x325000_1 / 9223372036854775808)))) = true := decide_eq_true c11
      clear c11
      have H' := Aside0.mk H
      clear H
      have hnb12 := NB324_325.out
      have hnc12 := NB325_324.out
      have hnb13 := NB324_326.out
      have hnc13 := NB326_324.out
      have hcz14_0 : wr.cell? ⟨gb324, 0, none⟩ = some (.int .u64 x325000_1) := (blk_cell BK324.out 0).trans rfl
      have hcz14_1 : wr.cell? ⟨gb324, 1, none⟩ = some (.int .u64 x325001_1) := (blk_cell BK324.out 1).trans rfl
      have hfz14_0 := blk_frozen BK324.out 0
      have hfz14_1 := blk_frozen BK324.out 1
      have hnb15 := NB326_325.out
      have hnc15 := NB325_326.out
      have hcz16_0 : wr.cell? ⟨gb326, 0, none⟩ = some (.int .u64 x327000_1) := (blk_cell BK326.out 0).trans rfl
      have hcz16_1 : wr.cell? ⟨gb326, 1, none⟩ = some (.bool true) := (blk_cell BK326.out 1).trans rfl
      have hcz16_2 : wr.cell? ⟨gb326, 2, none⟩ = some (.int .u64 x327002_1) := (blk_cell BK326.out 2).trans rfl
      have hfz16_0 := blk_frozen BK326.out 0
      have hfz16_1 := blk_frozen BK326.out 1
      have hfz16_2 := blk_frozen BK326.out 2
      go_wp2
      go_roundg k1
      case measure => have := HK1.out; omega
      case rel => exact ⟨(wrap64 (x6_1 - 1)), (IntKind.u64.wrap ((IntKind.u64.wrap (x325000_1 * 2)) + (x325001_1 / 9223372036854775808))), (IntKind.u64.wrap (x325001_1 * 2)), (IntKind.u64.wrap ((IntKind.u64.wrap (x327000_1 * 2)) + 1)), (true), (IntKind.u64.wrap ((IntKind.u64.wrap ((IntKind.u64.wrap (x327002_1 * 2)) + (x325000_1 / 9223372036854775808))) - a1)), (by first | rfl | (simp; done) | (simp [*]; done)), H', ⟨by have := HK1.out; omega⟩, ⟨by (with_reducible repeat (first | refine blk_drewN ?_ _ | refine blk_drew ?_ | refine blk_alloc ?_ _)); refine blk_far ?_ NB324_326.out _; (with_reducible repeat (first | refine blk_drewN ?_ _ | refine blk_drew ?_ | refine blk_alloc ?_ _)); refine blk_far ?_ NB324_326.out _; (with_reducible repeat (first | refine blk_drewN ?_ _ | refine blk_drew ?_ | refine blk_alloc ?_ _)); refine blk_far ?_ NB324_326.out _; (with_reducible repeat (first | refine blk_drewN ?_ _ | refine blk_drew ?_ | refine blk_alloc ?_ _)); refine blk_far ?_ NB324_326.out _; (with_reducible repeat (first | refine blk_drewN ?_ _ | refine blk_drew ?_ | refine blk_alloc ?_ _)); refine blk_far ?_ NB324_326.out _; (with_reducible repeat (first | refine blk_drewN ?_ _ | refine blk_drew ?_ | refine blk_alloc ?_ _)); refine blk_put (cs := #[.int .u64 (IntKind.u64.wrap ((IntKind.u64.wrap (x325000_1 * 2)) + (x325001_1 / 9223372036854775808))), .int .u64 x325001_1]) ?_ 1 _ rfl; (with_reducible repeat (first | refine blk_drewN ?_ _ | refine blk_drew ?_ | refine blk_alloc ?_ _)); refine blk_put (cs := #[.int .u64 x325000_1, .int .u64 x325001_1]) ?_ 0 _ rfl; (with_reducible repeat (first | refine blk_drewN ?_ _ | refine blk_drew ?_ | refine blk_alloc ?_ _)); exact BK324.out⟩, ⟨by (with_reducible repeat (first | refine blk_drewN ?_ _ | refine blk_drew ?_ | refine blk_alloc ?_ _)); refine blk_far ?_ NB325_326.out _; (with_reducible repeat (first | refine blk_drewN ?_ _ | refine blk_drew ?_ | refine blk_alloc ?_ _)); refine blk_far ?_ NB325_326.out _; (with_reducible repeat (first | refine blk_drewN ?_ _ | refine blk_drew ?_ | refine blk_alloc ?_ _)); refine blk_far ?_ NB325_326.out _; (with_reducible repeat (first | refine blk_drewN ?_ _ | refine blk_drew ?_ | refine blk_alloc ?_ _)); refine blk_far ?_ NB325_326.out _; (with_reducible repeat (first | refine blk_drewN ?_ _ | refine blk_drew ?_ | refine blk_alloc ?_ _)); refine blk_far ?_ NB325_326.out _; (with_reducible repeat (first | refine blk_drewN ?_ _ | refine blk_drew ?_ | refine blk_alloc ?_ _)); refine blk_far ?_ NB325_324.out _; (with_reducible repeat (first | refine blk_drewN ?_ _ | refine blk_drew ?_ | refine blk_alloc ?_ _)); refine blk_far ?_ NB325_324.out _; (with_reducible repeat (first | refine blk_drewN ?_ _ | refine blk_drew ?_ | refine blk_alloc ?_ _)); exact BK325.out⟩, ⟨by (with_reducible repeat (first | refine blk_drewN ?_ _ | refine blk_drew ?_ | refine blk_alloc ?_ _)); refine blk_put (cs := #[.int .u64 (IntKind.u64.wrap (x327000_1 * 2)), .bool true, .int .u64 (IntKind.u64.wrap ((IntKind.u64.wrap ((IntKind.u64.wrap (x327002_1 * 2)) + (x325000_1 / 9223372036854775808))) - a1))]) ?_ 0 _ rfl; (with_reducible repeat (first | refine blk_drewN ?_ _ | refine blk_drew ?_ | refine blk_alloc ?_ _)); refine blk_put (cs := #[.int .u64 (IntKind.u64.wrap (x327000_1 * 2)), .bool true, .int .u64 (IntKind.u64.wrap ((IntKind.u64.wrap (x327002_1 * 2)) + (x325000_1 / 9223372036854775808)))]) ?_ 2 _ rfl; (with_reducible repeat (first | refine blk_drewN ?_ _ | refine blk_drew ?_ | refine blk_alloc ?_ _)); refine blk_put (cs := #[.int .u64 x327000_1, .bool true, .int .u64 (IntKind.u64.wrap ((IntKind.u64.wrap (x327002_1 * 2)) + (x325000_1 / 9223372036854775808)))]) ?_ 0 _ rfl; (with_reducible repeat (first | refine blk_drewN ?_ _ | refine blk_drew ?_ | refine blk_alloc ?_ _)); refine blk_put (cs := #[.int .u64 x327000_1, .bool true, .int .u64 (IntKind.u64.wrap ((IntKind.u64.wrap (x327002_1 * 2)) + (x325000_1 / 9223372036854775808)))]) ?_ 1 _ rfl; (with_reducible repeat (first | refine blk_drewN ?_ _ | refine blk_drew ?_ | refine blk_alloc ?_ _)); refine blk_put (cs := #[.int .u64 x327000_1, .bool true, .int .u64 x327002_1]) ?_ 2 _ rfl; (with_reducible repeat (first | refine blk_drewN ?_ _ | refine blk_drew ?_ | refine blk_alloc ?_ _)); refine blk_far ?_ NB326_324.out _; (with_reducible repeat (first | refine blk_drewN ?_ _ | refine blk_drew ?_ | refine blk_alloc ?_ _)); refine blk_far ?_ NB326_324.out _; (with_reducible repeat (first | refine blk_drewN ?_ _ | refine blk_drew ?_ | refine blk_alloc ?_ _)); exact BK326.out⟩, ⟨by repeat (first | (with_reducible first | exact HB.out | apply below_alloc | apply pw_below_drewN | apply below_drew1 | refine below_set ?_ GE324.out | refine below_set ?_ GE325.out | refine below_set ?_ GE326.out) | exact HB.out)⟩⟩
     ·rw [if_neg c11] at H
      have c11b0 : decide (a1 ≤ (IntKind.u64.wrap ((IntKind.u64.wrap (x327002_1 * 2)) + (x325000_1 / 9223372036854775808)))) = false := decide_eq_false c11
      clear c11
      have H' := Aside0.mk H
      clear H
      have hnb17 := NB324_325.out
      have hnc17 := NB325_324.out
      have hnb18 := NB324_326.out
      have hnc18 := NB326_324.out
      have hcz19_0 : wr.cell? ⟨gb324, 0, none⟩ = some (.int .u64 x325000_1) := (blk_cell BK324.out 0).trans rfl
      have hcz19_1 : wr.cell? ⟨gb324, 1, none⟩ = some (.int .u64 x325001_1) := (blk_cell BK324.out 1).trans rfl
      have hfz19_0 := blk_frozen BK324.out 0
      have hfz19_1 := blk_frozen BK324.out 1
      have hnb20 := NB326_325.out
      have hnc20 := NB325_326.out
      have hcz21_0 : wr.cell? ⟨gb326, 0, none⟩ = some (.int .u64 x327000_1) := (blk_cell BK326.out 0).trans rfl
      have hcz21_1 : wr.cell? ⟨gb326, 1, none⟩ = some (.bool true) := (blk_cell BK326.out 1).trans rfl
      have hcz21_2 : wr.cell? ⟨gb326, 2, none⟩ = some (.int .u64 x327002_1) := (blk_cell BK326.out 2).trans rfl
      have hfz21_0 := blk_frozen BK326.out 0
      have hfz21_1 := blk_frozen BK326.out 1
      have hfz21_2 := blk_frozen BK326.out 2
      go_wp2
      go_roundg k1
      case measure => have := HK1.out; omega
      case rel => exact ⟨(wrap64 (x6_1 - 1)), (IntKind.u64.wrap ((IntKind.u64.wrap (x325000_1 * 2)) + (x325001_1 / 9223372036854775808))), (IntKind.u64.wrap (x325001_1 * 2)), (IntKind.u64.wrap (x327000_1 * 2)), (true), (IntKind.u64.wrap ((IntKind.u64.wrap (x327002_1 * 2)) + (x325000_1 / 9223372036854775808))), (by first | rfl | (simp; done) | (simp [*]; done)), H', ⟨by have := HK1.out; omega⟩, ⟨by (with_reducible repeat (first | refine blk_drewN ?_ _ | refine blk_drew ?_ | refine blk_alloc ?_ _)); refine blk_far ?_ NB324_326.out _; (with_reducible repeat (first | refine blk_drewN ?_ _ | refine blk_drew ?_ | refine blk_alloc ?_ _)); refine blk_far ?_ NB324_326.out _; (with_reducible repeat (first | refine blk_drewN ?_ _ | refine blk_drew ?_ | refine blk_alloc ?_ _)); refine blk_far ?_ NB324_326.out _; (with_reducible repeat (first | refine blk_drewN ?_ _ | refine blk_drew ?_ | refine blk_alloc ?_ _)); refine blk_put (cs := #[.int .u64 (IntKind.u64.wrap ((IntKind.u64.wrap (x325000_1 * 2)) + (x325001_1 / 9223372036854775808))), .int .u64 x325001_1]) ?_ 1 _ rfl; (with_reducible repeat (first | refine blk_drewN ?_ _ | refine blk_drew ?_ | refine blk_alloc ?_ _)); refine blk_put (cs := #[.int .u64 x325000_1, .int .u64 x325001_1]) ?_ 0 _ rfl; (with_reducible repeat (first | refine blk_drewN ?_ _ | refine blk_drew ?_ | refine blk_alloc ?_ _)); exact BK324.out⟩, ⟨by (with_reducible repeat (first | refine blk_drewN ?_ _ | refine blk_drew ?_ | refine blk_alloc ?_ _)); refine blk_far ?_ NB325_326.out _; (with_reducible repeat (first | refine blk_drewN ?_ _ | refine blk_drew ?_ | refine blk_alloc ?_ _)); refine blk_far ?_ NB325_326.out _; (with_reducible repeat (first | refine blk_drewN ?_ _ | refine blk_drew ?_ | refine blk_alloc ?_ _)); refine blk_far ?_ NB325_326.out _; (with_reducible repeat (first | refine blk_drewN ?_ _ | refine blk_drew ?_ | refine blk_alloc ?_ _)); refine blk_far ?_ NB325_324.out _; (with_reducible repeat (first | refine blk_drewN ?_ _ | refine blk_drew ?_ | refine blk_alloc ?_ _)); refine blk_far ?_ NB325_324.out _; (with_reducible repeat (first | refine blk_drewN ?_ _ | refine blk_drew ?_ | refine blk_alloc ?_ _)); exact BK325.out⟩, ⟨by (with_reducible repeat (first | refine blk_drewN ?_ _ | refine blk_drew ?_ | refine blk_alloc ?_ _)); refine blk_put (cs := #[.int .u64 x327000_1, .bool true, .int .u64 (IntKind.u64.wrap ((IntKind.u64.wrap (x327002_1 * 2)) + (x325000_1 / 9223372036854775808)))]) ?_ 0 _ rfl; (with_reducible repeat (first | refine blk_drewN ?_ _ | refine blk_drew ?_ | refine blk_alloc ?_ _)); refine blk_put (cs := #[.int .u64 x327000_1, .bool true, .int .u64 (IntKind.u64.wrap ((IntKind.u64.wrap (x327002_1 * 2)) + (x325000_1 / 9223372036854775808)))]) ?_ 1 _ rfl; (with_reducible repeat (first | refine blk_drewN ?_ _ | refine blk_drew ?_ | refine blk_alloc ?_ _)); refine blk_put (cs := #[.int .u64 x327000_1, .bool true, .int .u64 x327002_1]) ?_ 2 _ rfl; (with_reducible repeat (first | refine blk_drewN ?_ _ | refine blk_drew ?_ | refine blk_alloc ?_ _)); refine blk_far ?_ NB326_324.out _; (with_reducible repeat (first | refine blk_drewN ?_ _ | refine blk_drew ?_ | refine blk_alloc ?_ _)); refine blk_far ?_ NB326_324.out _; (with_reducible repeat (first | refine blk_drewN ?_ _ | refine blk_drew ?_ | refine blk_alloc ?_ _)); exact BK326.out⟩, ⟨by repeat (first | (with_reducible first | exact HB.out | apply below_alloc | apply pw_below_drewN | apply below_drew1 | refine below_set ?_ GE324.out | refine below_set ?_ GE325.out | refine below_set ?_ GE326.out) | exact HB.out)⟩⟩
    ·replace c10 := Bool.eq_false_iff.mpr c10
     subst c10
     have H1 : (if (IntKind.u64.wrap ((IntKind.u64.wrap (x327002_1 * 2)) + (x325000_1 / 9223372036854775808))) ≥ a1 then (flywheelref02_part.l0 k1 a1 (wrap64 (x6_1 - 1)) (IntKind.u64.wrap ((IntKind.u64.wrap (x325000_1 * 2)) + (x325001_1 / 9223372036854775808))) (IntKind.u64.wrap (x325001_1 * 2)) (IntKind.u64.wrap ((IntKind.u64.wrap (x327000_1 * 2)) + 1)) ((x327000_1 / 9223372036854775808) == 1) (IntKind.u64.wrap ((IntKind.u64.wrap ((IntKind.u64.wrap (x327002_1 * 2)) + (x325000_1 / 9223372036854775808))) - a1))) else (flywheelref02_part.l0 k1 a1 (wrap64 (x6_1 - 1)) (IntKind.u64.wrap ((IntKind.u64.wrap (x325000_1 * 2)) + (x325001_1 / 9223372036854775808))) (IntKind.u64.wrap (x325001_1 * 2)) (IntKind.u64.wrap (x327000_1 * 2)) ((x327000_1 / 9223372036854775808) == 1) (IntKind.u64.wrap ((IntKind.u64.wrap (x327002_1 * 2)) + (x325000_1 / 9223372036854775808))))) = some (r1, r2, r3) := by rw [if_neg (show ¬ (false = true) by decide)] at H; exact H
     clear H
     have H := H1
     clear H1
     by_cases c22 : (IntKind.u64.wrap ((IntKind.u64.wrap (x327002_1 * 2)) + (x325000_1 / 9223372036854775808))) ≥ a1
     ·rw [if_pos c22] at H
      have c22b0 : decide (a1 ≤ (IntKind.u64.wrap ((IntKind.u64.wrap (x327002_1 * 2)) + (x325000_1 / 9223372036854775808)))) = true := decide_eq_true c22
      clear c22
      have H' := Aside0.mk H
      clear H
      have hnb23 := NB324_325.out
      have hnc23 := NB325_324.out
      have hnb24 := NB324_326.out
      have hnc24 := NB326_324.out
      have hcz25_0 : wr.cell? ⟨gb324, 0, none⟩ = some (.int .u64 x325000_1) := (blk_cell BK324.out 0).trans rfl
      have hcz25_1 : wr.cell? ⟨gb324, 1, none⟩ = some (.int .u64 x325001_1) := (blk_cell BK324.out 1).trans rfl
      have hfz25_0 := blk_frozen BK324.out 0
      have hfz25_1 := blk_frozen BK324.out 1
      have hnb26 := NB326_325.out
      have hnc26 := NB325_326.out
      have hcz27_0 : wr.cell? ⟨gb326, 0, none⟩ = some (.int .u64 x327000_1) := (blk_cell BK326.out 0).trans rfl
      have hcz27_1 : wr.cell? ⟨gb326, 1, none⟩ = some (.bool false) := (blk_cell BK326.out 1).trans rfl
      have hcz27_2 : wr.cell? ⟨gb326, 2, none⟩ = some (.int .u64 x327002_1) := (blk_cell BK326.out 2).trans rfl
      have hfz27_0 := blk_frozen BK326.out 0
      have hfz27_1 := blk_frozen BK326.out 1
      have hfz27_2 := blk_frozen BK326.out 2
      go_wp2
      go_roundg k1
      case measure => have := HK1.out; omega
      case rel => exact ⟨(wrap64 (x6_1 - 1)), (IntKind.u64.wrap ((IntKind.u64.wrap (x325000_1 * 2)) + (x325001_1 / 9223372036854775808))), (IntKind.u64.wrap (x325001_1 * 2)), (IntKind.u64.wrap ((IntKind.u64.wrap (x327000_1 * 2)) + 1)), (((x327000_1 / 9223372036854775808) == 1)), (IntKind.u64.wrap ((IntKind.u64.wrap ((IntKind.u64.wrap (x327002_1 * 2)) + (x325000_1 / 9223372036854775808))) - a1)), (by first | rfl | (simp; done) | (simp [*]; done)), H', ⟨by have := HK1.out; omega⟩, ⟨by (with_reducible repeat (first | refine blk_drewN ?_ _ | refine blk_drew ?_ | refine blk_alloc ?_ _)); refine blk_far ?_ NB324_326.out _; (with_reducible repeat (first | refine blk_drewN ?_ _ | refine blk_drew ?_ | refine blk_alloc ?_ _)); refine blk_far ?_ NB324_326.out _; (with_reducible repeat (first | refine blk_drewN ?_ _ | refine blk_drew ?_ | refine blk_alloc ?_ _)); refine blk_far ?_ NB324_326.out _; (with_reducible repeat (first | refine blk_drewN ?_ _ | refine blk_drew ?_ | refine blk_alloc ?_ _)); refine blk_far ?_ NB324_326.out _; (with_reducible repeat (first | refine blk_drewN ?_ _ | refine blk_drew ?_ | refine blk_alloc ?_ _)); refine blk_far ?_ NB324_326.out _; (with_reducible repeat (first | refine blk_drewN ?_ _ | refine blk_drew ?_ | refine blk_alloc ?_ _)); refine blk_put (cs := #[.int .u64 (IntKind.u64.wrap ((IntKind.u64.wrap (x325000_1 * 2)) + (x325001_1 / 9223372036854775808))), .int .u64 x325001_1]) ?_ 1 _ rfl; (with_reducible repeat (first | refine blk_drewN ?_ _ | refine blk_drew ?_ | refine blk_alloc ?_ _)); refine blk_put (cs := #[.int .u64 x325000_1, .int .u64 x325001_1]) ?_ 0 _ rfl; (with_reducible repeat (first | refine blk_drewN ?_ _ | refine blk_drew ?_ | refine blk_alloc ?_ _)); exact BK324.out⟩, ⟨by (with_reducible repeat (first | refine blk_drewN ?_ _ | refine blk_drew ?_ | refine blk_alloc ?_ _)); refine blk_far ?_ NB325_326.out _; (with_reducible repeat (first | refine blk_drewN ?_ _ | refine blk_drew ?_ | refine blk_alloc ?_ _)); refine blk_far ?_ NB325_326.out _; (with_reducible repeat (first | refine blk_drewN ?_ _ | refine blk_drew ?_ | refine blk_alloc ?_ _)); refine blk_far ?_ NB325_326.out _; (with_reducible repeat (first | refine blk_drewN ?_ _ | refine blk_drew ?_ | refine blk_alloc ?_ _)); refine blk_far ?_ NB325_326.out _; (with_reducible repeat (first | refine blk_drewN ?_ _ | refine blk_drew ?_ | refine blk_alloc ?_ _)); refine blk_far ?_ NB325_326.out _; (with_reducible repeat (first | refine blk_drewN ?_ _ | refine blk_drew ?_ | refine blk_alloc ?_ _)); refine blk_far ?_ NB325_324.out _; (with_reducible repeat (first | refine blk_drewN ?_ _ | refine blk_drew ?_ | refine blk_alloc ?_ _)); refine blk_far ?_ NB325_324.out _; (with_reducible repeat (first | refine blk_drewN ?_ _ | refine blk_drew ?_ | refine blk_alloc ?_ _)); exact BK325.out⟩, ⟨by (with_reducible repeat (first | refine blk_drewN ?_ _ | refine blk_drew ?_ | refine blk_alloc ?_ _)); refine blk_put (cs := #[.int .u64 (IntKind.u64.wrap (x327000_1 * 2)), .bool ((x327000_1 / 9223372036854775808) == 1), .int .u64 (IntKind.u64.wrap ((IntKind.u64.wrap ((IntKind.u64.wrap (x327002_1 * 2)) + (x325000_1 / 9223372036854775808))) - a1))]) ?_ 0 _ rfl; (with_reducible repeat (first | refine blk_drewN ?_ _ | refine blk_drew ?_ | refine blk_alloc ?_ _)); refine blk_put (cs := #[.int .u64 (IntKind.u64.wrap (x327000_1 * 2)), .bool ((x327000_1 / 9223372036854775808) == 1), .int .u64 (IntKind.u64.wrap ((IntKind.u64.wrap (x327002_1 * 2)) + (x325000_1 / 9223372036854775808)))]) ?_ 2 _ rfl; (with_reducible repeat (first | refine blk_drewN ?_ _ | refine blk_drew ?_ | refine blk_alloc ?_ _)); refine blk_put (cs := #[.int .u64 x327000_1, .bool ((x327000_1 / 9223372036854775808) == 1), .int .u64 (IntKind.u64.wrap ((IntKind.u64.wrap (x327002_1 * 2)) + (x325000_1 / 9223372036854775808)))]) ?_ 0 _ rfl; (with_reducible repeat (first | refine blk_drewN ?_ _ | refine blk_drew ?_ | refine blk_alloc ?_ _)); refine blk_put (cs := #[.int .u64 x327000_1, .bool false, .int .u64 (IntKind.u64.wrap ((IntKind.u64.wrap (x327002_1 * 2)) + (x325000_1 / 9223372036854775808)))]) ?_ 1 _ rfl; (with_reducible repeat (first | refine blk_drewN ?_ _ | refine blk_drew ?_ | refine blk_alloc ?_ _)); refine blk_put (cs := #[.int .u64 x327000_1, .bool false, .int .u64 x327002_1]) ?_ 2 _ rfl; (with_reducible repeat (first | refine blk_drewN ?_ _ | refine blk_drew ?_ | refine blk_alloc ?_ _)); refine blk_far ?_ NB326_324.out _; (with_reducible repeat (first | refine blk_drewN ?_ _ | refine blk_drew ?_ | refine blk_alloc ?_ _)); refine blk_far ?_ NB326_324.out _; (with_reducible repeat (first | refine blk_drewN ?_ _ | refine blk_drew ?_ | refine blk_alloc ?_ _)); exact BK326.out⟩, ⟨by repeat (first | (with_reducible first | exact HB.out | apply below_alloc | apply pw_below_drewN | apply below_drew1 | refine below_set ?_ GE324.out | refine below_set ?_ GE325.out | refine below_set ?_ GE326.out) | exact HB.out)⟩⟩
     ·rw [if_neg c22] at H
      have c22b0 : decide (a1 ≤ (IntKind.u64.wrap ((IntKind.u64.wrap (x327002_1 * 2)) + (x325000_1 / 9223372036854775808)))) = false := decide_eq_false c22
      clear c22
      have H' := Aside0.mk H
      clear H
      have hnb28 := NB324_325.out
      have hnc28 := NB325_324.out
      have hnb29 := NB324_326.out
      have hnc29 := NB326_324.out
      have hcz30_0 : wr.cell? ⟨gb324, 0, none⟩ = some (.int .u64 x325000_1) := (blk_cell BK324.out 0).trans rfl
      have hcz30_1 : wr.cell? ⟨gb324, 1, none⟩ = some (.int .u64 x325001_1) := (blk_cell BK324.out 1).trans rfl
      have hfz30_0 := blk_frozen BK324.out 0
      have hfz30_1 := blk_frozen BK324.out 1
      have hnb31 := NB326_325.out
      have hnc31 := NB325_326.out
      have hcz32_0 : wr.cell? ⟨gb326, 0, none⟩ = some (.int .u64 x327000_1) := (blk_cell BK326.out 0).trans rfl
      have hcz32_1 : wr.cell? ⟨gb326, 1, none⟩ = some (.bool false) := (blk_cell BK326.out 1).trans rfl
      have hcz32_2 : wr.cell? ⟨gb326, 2, none⟩ = some (.int .u64 x327002_1) := (blk_cell BK326.out 2).trans rfl
      have hfz32_0 := blk_frozen BK326.out 0
      have hfz32_1 := blk_frozen BK326.out 1
      have hfz32_2 := blk_frozen BK326.out 2
      go_wp2
      go_roundg k1
      case measure => have := HK1.out; omega
      case rel => exact ⟨(wrap64 (x6_1 - 1)), (IntKind.u64.wrap ((IntKind.u64.wrap (x325000_1 * 2)) + (x325001_1 / 9223372036854775808))), (IntKind.u64.wrap (x325001_1 * 2)), (IntKind.u64.wrap (x327000_1 * 2)), (((x327000_1 / 9223372036854775808) == 1)), (IntKind.u64.wrap ((IntKind.u64.wrap (x327002_1 * 2)) + (x325000_1 / 9223372036854775808))), (by first | rfl | (simp; done) | (simp [*]; done)), H', ⟨by have := HK1.out; omega⟩, ⟨by (with_reducible repeat (first | refine blk_drewN ?_ _ | refine blk_drew ?_ | refine blk_alloc ?_ _)); refine blk_far ?_ NB324_326.out _; (with_reducible repeat (first | refine blk_drewN ?_ _ | refine blk_drew ?_ | refine blk_alloc ?_ _)); refine blk_far ?_ NB324_326.out _; (with_reducible repeat (first | refine blk_drewN ?_ _ | refine blk_drew ?_ | refine blk_alloc ?_ _)); refine blk_far ?_ NB324_326.out _; (with_reducible repeat (first | refine blk_drewN ?_ _ | refine blk_drew ?_ | refine blk_alloc ?_ _)); refine blk_put (cs := #[.int .u64 (IntKind.u64.wrap ((IntKind.u64.wrap (x325000_1 * 2)) + (x325001_1 / 9223372036854775808))), .int .u64 x325001_1]) ?_ 1 _ rfl; (with_reducible repeat (first | refine blk_drewN ?_ _ | refine blk_drew ?_ | refine blk_alloc ?_ _)); refine blk_put (cs := #[.int .u64 x325000_1, .int .u64 x325001_1]) ?_ 0 _ rfl; (with_reducible repeat (first | refine blk_drewN ?_ _ | refine blk_drew ?_ | refine blk_alloc ?_ _)); exact BK324.out⟩, ⟨by (with_reducible repeat (first | refine blk_drewN ?_ _ | refine blk_drew ?_ | refine blk_alloc ?_ _)); refine blk_far ?_ NB325_326.out _; (with_reducible repeat (first | refine blk_drewN ?_ _ | refine blk_drew ?_ | refine blk_alloc ?_ _)); refine blk_far ?_ NB325_326.out _; (with_reducible repeat (first | refine blk_drewN ?_ _ | refine blk_drew ?_ | refine blk_alloc ?_ _)); refine blk_far ?_ NB325_326.out _; (with_reducible repeat (first | refine blk_drewN ?_ _ | refine blk_drew ?_ | refine blk_alloc ?_ _)); refine blk_far ?_ NB325_324.out _; (with_reducible repeat (first | refine blk_drewN ?_ _ | refine blk_drew ?_ | refine blk_alloc ?_ _)); refine blk_far ?_ NB325_324.out _; (with_reducible repeat (first | refine blk_drewN ?_ _ | refine blk_drew ?_ | refine blk_alloc ?_ _)); exact BK325.out⟩, ⟨by (with_reducible repeat (first | refine blk_drewN ?_ _ | refine blk_drew ?_ | refine blk_alloc ?_ _)); refine blk_put (cs := #[.int .u64 x327000_1, .bool ((x327000_1 / 9223372036854775808) == 1), .int .u64 (IntKind.u64.wrap ((IntKind.u64.wrap (x327002_1 * 2)) + (x325000_1 / 9223372036854775808)))]) ?_ 0 _ rfl; (with_reducible repeat (first | refine blk_drewN ?_ _ | refine blk_drew ?_ | refine blk_alloc ?_ _)); refine blk_put (cs := #[.int .u64 x327000_1, .bool false, .int .u64 (IntKind.u64.wrap ((IntKind.u64.wrap (x327002_1 * 2)) + (x325000_1 / 9223372036854775808)))]) ?_ 1 _ rfl; (with_reducible repeat (first | refine blk_drewN ?_ _ | refine blk_drew ?_ | refine blk_alloc ?_ _)); refine blk_put (cs := #[.int .u64 x327000_1, .bool false, .int .u64 x327002_1]) ?_ 2 _ rfl; (with_reducible repeat (first | refine blk_drewN ?_ _ | refine blk_drew ?_ | refine blk_alloc ?_ _)); refine blk_far ?_ NB326_324.out _; (with_reducible repeat (first | refine blk_drewN ?_ _ | refine blk_drew ?_ | refine blk_alloc ?_ _)); refine blk_far ?_ NB326_324.out _; (with_reducible repeat (first | refine blk_drewN ?_ _ | refine blk_drew ?_ | refine blk_alloc ?_ _)); exact BK326.out⟩, ⟨by repeat (first | (with_reducible first | exact HB.out | apply below_alloc | apply pw_below_drewN | apply below_drew1 | refine below_set ?_ GE324.out | refine below_set ?_ GE325.out | refine below_set ?_ GE326.out) | exact HB.out)⟩⟩
   ·rw [if_neg c9] at H
    have c9b0 : decide (0 ≤ x6_1) = false := decide_eq_false c9
    clear c9
    simp only [Option.some.injEq, Prod.mk.injEq] at H
    obtain ⟨rfl, rfl, rfl⟩ := H
    have hnb33 := NB326_324.out
    have hnc33 := NB324_326.out
    have hnb34 := NB326_325.out
    have hnc34 := NB325_326.out
    have hcz35_0 : wr.cell? ⟨gb326, 0, none⟩ = some (.int .u64 x327000_1) := (blk_cell BK326.out 0).trans rfl
    have hcz35_1 : wr.cell? ⟨gb326, 1, none⟩ = some (.bool x327001_1) := (blk_cell BK326.out 1).trans rfl
    have hcz35_2 : wr.cell? ⟨gb326, 2, none⟩ = some (.int .u64 x327002_1) := (blk_cell BK326.out 2).trans rfl
    have hfz35_0 := blk_frozen BK326.out 0
    have hfz35_1 := blk_frozen BK326.out 1
    have hfz35_2 := blk_frozen BK326.out 2
    have hnb36 := NB325_324.out
    have hnc36 := NB324_325.out
    have hcz37_0 : wr.cell? ⟨gb325, 0, none⟩ = some (.int .u64 0) := (blk_cell BK325.out 0).trans rfl
    have hcz37_1 : wr.cell? ⟨gb325, 1, none⟩ = some (.bool false) := (blk_cell BK325.out 1).trans rfl
    have hcz37_2 : wr.cell? ⟨gb325, 2, none⟩ = some (.int .u64 0) := (blk_cell BK325.out 2).trans rfl
    have hfz37_0 := blk_frozen BK325.out 0
    have hfz37_1 := blk_frozen BK325.out 1
    have hfz37_2 := blk_frozen BK325.out 2
    go_wp2
    refine bodyPost_ret (results_cell_row rfl _ _ gb325 94 #[.int .u64 x327000_1, .bool x327001_1, .int .u64 x327002_1] (0, 0) _ rfl (by (with_reducible repeat (first | refine blk_drewN ?_ _ | refine blk_drew ?_ | refine blk_alloc ?_ _)); refine blk_put (cs := #[.int .u64 x327000_1, .bool x327001_1, .int .u64 0]) ?_ 2 _ rfl; (with_reducible repeat (first | refine blk_drewN ?_ _ | refine blk_drew ?_ | refine blk_alloc ?_ _)); refine blk_put (cs := #[.int .u64 x327000_1, .bool false, .int .u64 0]) ?_ 1 _ rfl; (with_reducible repeat (first | refine blk_drewN ?_ _ | refine blk_drew ?_ | refine blk_alloc ?_ _)); refine blk_put (cs := #[.int .u64 0, .bool false, .int .u64 0]) ?_ 0 _ rfl; (with_reducible repeat (first | refine blk_drewN ?_ _ | refine blk_drew ?_ | refine blk_alloc ?_ _)); exact BK325.out) Try.underlying94 rfl (by kernel_rfl)) rfl ?_
    exact ⟨by first | rfl | (simp [errW_none, errW_some] <;> rfl) | (simp [*, errW_none, errW_some] <;> rfl), by repeat (first | (with_reducible first | exact HB.out | apply below_alloc | apply pw_below_drewN | apply below_drew1 | refine below_set ?_ GE324.out | refine below_set ?_ GE325.out | refine below_set ?_ GE326.out) | exact HB.out)⟩
def flywheelref02_times.f (a0 : Int) (a1 : Int) : Option (Int × Int) := some (IntKind.u64.wrap ((IntKind.u64.wrap ((IntKind.u64.wrap ((a0 / 4294967296) * (a1 / 4294967296))) + ((IntKind.u64.wrap ((IntKind.u64.wrap ((a0 / 4294967296) * (Go.bits .and .u64 a1 4294967295))) + ((IntKind.u64.wrap ((Go.bits .and .u64 a0 4294967295) * (Go.bits .and .u64 a1 4294967295))) / 4294967296))) / 4294967296))) + ((IntKind.u64.wrap ((IntKind.u64.wrap ((Go.bits .and .u64 a0 4294967295) * (a1 / 4294967296))) + (Go.bits .and .u64 (IntKind.u64.wrap ((IntKind.u64.wrap ((a0 / 4294967296) * (Go.bits .and .u64 a1 4294967295))) + ((IntKind.u64.wrap ((Go.bits .and .u64 a0 4294967295) * (Go.bits .and .u64 a1 4294967295))) / 4294967296))) 4294967295))) / 4294967296)), IntKind.u64.wrap ((IntKind.u64.wrap ((IntKind.u64.wrap ((IntKind.u64.wrap ((Go.bits .and .u64 a0 4294967295) * (a1 / 4294967296))) + (Go.bits .and .u64 (IntKind.u64.wrap ((IntKind.u64.wrap ((a0 / 4294967296) * (Go.bits .and .u64 a1 4294967295))) + ((IntKind.u64.wrap ((Go.bits .and .u64 a0 4294967295) * (Go.bits .and .u64 a1 4294967295))) / 4294967296))) 4294967295))) * 4294967296)) + (Go.bits .and .u64 (IntKind.u64.wrap ((Go.bits .and .u64 a0 4294967295) * (Go.bits .and .u64 a1 4294967295))) 4294967295)))
set_option maxHeartbeats 8000000 in
set_option maxRecDepth 100000 in
theorem flywheelref02_times.calls (a0 : Int) (a1 : Int) (r1 : Int) (r2 : Int) (w : World) (h : flywheelref02_times.f a0 a1 = some (r1, r2)) :
  Calls Try.prog 62 #[.int .u64 a0, .int .u64 a1] w fun e w' => e = .returned (.agg #[.int .u64 r1, .int .u64 r2]) ∧ Below w.heap.size w w' := by
 have hu97 := Try.underlying97
 have HB := Aside0.mk (Below.refl w.heap.size w)
 have H : (some (IntKind.u64.wrap ((IntKind.u64.wrap ((IntKind.u64.wrap ((a0 / 4294967296) * (a1 / 4294967296))) + ((IntKind.u64.wrap ((IntKind.u64.wrap ((a0 / 4294967296) * (Go.bits .and .u64 a1 4294967295))) + ((IntKind.u64.wrap ((Go.bits .and .u64 a0 4294967295) * (Go.bits .and .u64 a1 4294967295))) / 4294967296))) / 4294967296))) + ((IntKind.u64.wrap ((IntKind.u64.wrap ((Go.bits .and .u64 a0 4294967295) * (a1 / 4294967296))) + (Go.bits .and .u64 (IntKind.u64.wrap ((IntKind.u64.wrap ((a0 / 4294967296) * (Go.bits .and .u64 a1 4294967295))) + ((IntKind.u64.wrap ((Go.bits .and .u64 a0 4294967295) * (Go.bits .and .u64 a1 4294967295))) / 4294967296))) 4294967295))) / 4294967296)), IntKind.u64.wrap ((IntKind.u64.wrap ((IntKind.u64.wrap ((IntKind.u64.wrap ((Go.bits .and .u64 a0 4294967295) * (a1 / 4294967296))) + (Go.bits .and .u64 (IntKind.u64.wrap ((IntKind.u64.wrap ((a0 / 4294967296) * (Go.bits .and .u64 a1 4294967295))) + ((IntKind.u64.wrap ((Go.bits .and .u64 a0 4294967295) * (Go.bits .and .u64 a1 4294967295))) / 4294967296))) 4294967295))) * 4294967296)) + (Go.bits .and .u64 (IntKind.u64.wrap ((Go.bits .and .u64 a0 4294967295) * (Go.bits .and .u64 a1 4294967295))) 4294967295)))) = some (r1, r2) := h
 clear h
 simp only [Option.some.injEq, Prod.mk.injEq] at H
 obtain ⟨rfl, rfl⟩ := H
 go_enter Try.func62, Try.ntmps62
 go_wp2_with (first | ((with_reducible refine gate_dst (N := 4) rfl ?_); refine box_event ?hg (N := 4) ?hd (cs := #[.int .u64 0, .int .u64 0]) (t := 97) ?hr ?_; (case hd => rfl); (case hg => rfl); (case hr => first | (go_simp; done) | (go_simp; rfl)); intro gb327 hg w3 hbox hb; have n0_ := Aside0.mk (below_step (by repeat (first | (with_reducible first | exact HB.out | apply below_alloc | apply pw_below_drewN | apply below_drew1) | exact HB.out)) hb); have n1_ := Aside0.mk (hbox); have n2_ := Aside0.mk ((by rw [hg]; exact (below_size (by repeat (first | (with_reducible first | exact HB.out | apply below_alloc | apply pw_below_drewN | apply below_drew1) | exact HB.out))) : w.heap.size ≤ gb327)); have n3_ := Aside0.mk ((by rw [hg]; exact (below_size (by repeat (first | (with_reducible first | exact HB.out | apply below_alloc | apply pw_below_drewN | apply below_drew1) | exact HB.out))) : w.heap.size ≤ gb327)); clear HB; have HB := n0_; have BK327 := n1_; have GW327 := n2_; have GE327 := n3_; clear n0_ n1_ n2_ n3_; clear hb hbox hg; have hcz4_0 : w3.cell? ⟨gb327, 0, none⟩ = some (.int .u64 0) := (blk_cell BK327.out 0).trans rfl; have hcz4_1 : w3.cell? ⟨gb327, 1, none⟩ = some (.int .u64 0) := (blk_cell BK327.out 1).trans rfl; have hfz4_0 := blk_frozen BK327.out 0; have hfz4_1 := blk_frozen BK327.out 1))
 refine bodyPost_ret (results_cell_row rfl _ _ gb327 97 #[.int .u64 (IntKind.u64.wrap ((IntKind.u64.wrap ((IntKind.u64.wrap ((a0 / 4294967296) * (a1 / 4294967296))) + ((IntKind.u64.wrap ((IntKind.u64.wrap ((a0 / 4294967296) * (Go.bits .and .u64 a1 4294967295))) + ((IntKind.u64.wrap ((Go.bits .and .u64 a0 4294967295) * (Go.bits .and .u64 a1 4294967295))) / 4294967296))) / 4294967296))) + ((IntKind.u64.wrap ((IntKind.u64.wrap ((Go.bits .and .u64 a0 4294967295) * (a1 / 4294967296))) + (Go.bits .and .u64 (IntKind.u64.wrap ((IntKind.u64.wrap ((a0 / 4294967296) * (Go.bits .and .u64 a1 4294967295))) + ((IntKind.u64.wrap ((Go.bits .and .u64 a0 4294967295) * (Go.bits .and .u64 a1 4294967295))) / 4294967296))) 4294967295))) / 4294967296))), .int .u64 (IntKind.u64.wrap ((IntKind.u64.wrap ((IntKind.u64.wrap ((IntKind.u64.wrap ((Go.bits .and .u64 a0 4294967295) * (a1 / 4294967296))) + (Go.bits .and .u64 (IntKind.u64.wrap ((IntKind.u64.wrap ((a0 / 4294967296) * (Go.bits .and .u64 a1 4294967295))) + ((IntKind.u64.wrap ((Go.bits .and .u64 a0 4294967295) * (Go.bits .and .u64 a1 4294967295))) / 4294967296))) 4294967295))) * 4294967296)) + (Go.bits .and .u64 (IntKind.u64.wrap ((Go.bits .and .u64 a0 4294967295) * (Go.bits .and .u64 a1 4294967295))) 4294967295)))] (0, 0) _ rfl (by (with_reducible repeat (first | refine blk_drewN ?_ _ | refine blk_drew ?_ | refine blk_alloc ?_ _)); refine blk_put (cs := #[.int .u64 (IntKind.u64.wrap ((IntKind.u64.wrap ((IntKind.u64.wrap ((a0 / 4294967296) * (a1 / 4294967296))) + ((IntKind.u64.wrap ((IntKind.u64.wrap ((a0 / 4294967296) * (Go.bits .and .u64 a1 4294967295))) + ((IntKind.u64.wrap ((Go.bits .and .u64 a0 4294967295) * (Go.bits .and .u64 a1 4294967295))) / 4294967296))) / 4294967296))) + ((IntKind.u64.wrap ((IntKind.u64.wrap ((Go.bits .and .u64 a0 4294967295) * (a1 / 4294967296))) + (Go.bits .and .u64 (IntKind.u64.wrap ((IntKind.u64.wrap ((a0 / 4294967296) * (Go.bits .and .u64 a1 4294967295))) + ((IntKind.u64.wrap ((Go.bits .and .u64 a0 4294967295) * (Go.bits .and .u64 a1 4294967295))) / 4294967296))) 4294967295))) / 4294967296))), .int .u64 0]) ?_ 1 _ rfl; (with_reducible repeat (first | refine blk_drewN ?_ _ | refine blk_drew ?_ | refine blk_alloc ?_ _)); refine blk_put (cs := #[.int .u64 0, .int .u64 0]) ?_ 0 _ rfl; (with_reducible repeat (first | refine blk_drewN ?_ _ | refine blk_drew ?_ | refine blk_alloc ?_ _)); exact BK327.out) Try.underlying97 rfl (by kernel_rfl)) rfl ?_
 exact ⟨by first | rfl | (simp [errW_none, errW_some] <;> rfl) | (simp [*, errW_none, errW_some] <;> rfl), by repeat (first | (with_reducible first | exact HB.out | apply below_alloc | apply pw_below_drewN | apply below_drew1 | refine below_set ?_ GE327.out) | exact HB.out)⟩
def flywheelref02_size.f (a0 : Int) : Option (Int) := if a0 < 0 then (some (IntKind.u64.wrap ((IntKind.u64.wrap (wrap64 (-(wrap64 (a0 + 1))))) + 1))) else (some (IntKind.u64.wrap (a0)))
set_option maxHeartbeats 8000000 in
set_option maxRecDepth 100000 in
theorem flywheelref02_size.calls (a0 : Int) (r : Int) (w : World) (h : flywheelref02_size.f a0 = some r) :
  Calls Try.prog 63 #[.int .i64 a0] w fun e w' => e = .returned (.int .u64 r) ∧ Drawn0 w w' := by
 have H : (if a0 < 0 then (some (IntKind.u64.wrap ((IntKind.u64.wrap (wrap64 (-(wrap64 (a0 + 1))))) + 1))) else (some (IntKind.u64.wrap (a0)))) = some r := h
 clear h
 by_cases c2 : a0 < 0
 ·rw [if_pos c2] at H
  have c2b0 : decide (a0 < 0) = true := decide_eq_true c2
  clear c2
  obtain rfl := Option.some.inj H
  go_enter Try.func63, Try.ntmps63
  go_wp2
  go_ret
  exact ⟨by first | rfl | (simp; done) | (simp [*]; done), by repeat (first | exact Drawn0.refl _ | apply Drawn0.step)⟩
 ·rw [if_neg c2] at H
  have c2b0 : decide (a0 < 0) = false := decide_eq_false c2
  clear c2
  obtain rfl := Option.some.inj H
  go_enter Try.func63, Try.ntmps63
  go_wp2
  go_ret
  exact ⟨by first | rfl | (simp; done) | (simp [*]; done), by repeat (first | exact Drawn0.refl _ | apply Drawn0.step)⟩
end Go.Proofs.Ytaelmmbodigheaa.P
end

-- PUT TOGETHER by a program of this session: of the claim's texts, what is used
import Derived.Test.YtkfkbebpcmmnfaaDoorKLossyCuts7
section
namespace Go.Proofs.YtkfkbebpcmmnfaaDoor.P
open Go.RowKit Go.Proofs.YtkfkbebpcmmnfaaDoorW.PrintWords Go.Proofs.YtkfkbebpcmmnfaaDoorW.PrintLast Go.Proofs.YtkfkbebpcmmnfaaDoorW.PrintMore
attribute [local go_sem] max2_int min2_int max_two min_two max_three min_three max_four min_four   -- for this text's walks alone
set_option linter.unusedVariables false
set_option linter.unusedSimpArgs false
def lrow (r n : Int) : Option Int := if n ≤ 5 then (muldiv_Do.f r (wrap64 (105 - wrap64 0)) 100 3).bind fun q => some (wrap64 (q + 1000)) else if n ≤ 26 then (muldiv_Do.f r (wrap64 (1 - wrap64 0)) 1 1).bind fun q => some (wrap64 q) else (muldiv_Do.f r (wrap64 (512 - wrap64 n)) 512 1).bind fun q => some (wrap64 q)
def lossy_Lossy_Update.f (s0_0 : Int) (s0_1 : Int) (s0_2 : Int) (s0_3 : Bool) (s0_4 : Int) (a1 : Int) (a2 : Int) : Option (Int × Int × Int × Int × Bool × Int) := (sat_Clamp.f a2 0 1125899906842624).bind fun t => (if s0_3 = true ∧ wrap64 (t - s0_4) < 200000 then some (s0_0, s0_0, s0_1, s0_2, s0_3, s0_4) else ((sat_Clamp.f a1 0 256).bind fun n => ((lrow s0_0 n).bind fun q => ((sat_Clamp.f q s0_1 s0_2).bind fun t3 => some (t3, t3, s0_1, s0_2, true, t)))))
def lossy_Lossy_Update.nilrecv.f (a1 : Int) (a2 : Int) : Option Int := some 0
def GL (w : World) : Prop := w.cell? ⟨0, 0, none⟩ = some (.int .i64 5) ∧ w.cell? ⟨0, 1, none⟩ = some (.int .i64 105) ∧ w.cell? ⟨0, 2, none⟩ = some (.int .i64 100) ∧ w.cell? ⟨0, 3, none⟩ = some (.int .i64 1000) ∧ w.cell? ⟨0, 4, none⟩ = some (.int .i64 0) ∧ w.cell? ⟨0, 5, none⟩ = some (.int .i64 26) ∧ w.cell? ⟨0, 6, none⟩ = some (.int .i64 1) ∧ w.cell? ⟨0, 7, none⟩ = some (.int .i64 1) ∧ w.cell? ⟨0, 8, none⟩ = some (.int .i64 0) ∧ w.cell? ⟨0, 9, none⟩ = some (.int .i64 0) ∧ w.cell? ⟨0, 10, none⟩ = some (.int .i64 256) ∧ w.cell? ⟨0, 11, none⟩ = some (.int .i64 512) ∧ w.cell? ⟨0, 12, none⟩ = some (.int .i64 512) ∧ w.cell? ⟨0, 13, none⟩ = some (.int .i64 0) ∧ w.cell? ⟨0, 14, none⟩ = some (.int .i64 1)
theorem GL.below {w w1 : World} (h : GL w) (hb : Below w.heap.size w w1) : GL w1 := by
 unfold GL at h ⊢
 obtain ⟨h0, h1, h2, h3, h4, h5, h6, h7, h8, h9, h10, h11, h12, h13, h14⟩ := h
 exact ⟨pw_cell_below hb h0, pw_cell_below hb h1, pw_cell_below hb h2, pw_cell_below hb h3, pw_cell_below hb h4, pw_cell_below hb h5, pw_cell_below hb h6, pw_cell_below hb h7, pw_cell_below hb h8, pw_cell_below hb h9, pw_cell_below hb h10, pw_cell_below hb h11, pw_cell_below hb h12, pw_cell_below hb h13, pw_cell_below hb h14⟩
theorem namedG_ {P : Program} {Q : Exit → Act → World → Prop} {a : Act} {W : World} {c : Code} (h : ∀ W_, W_ = W → c.wp P Q a W_) : c.wp P Q a W := h W rfl
theorem sizeG_ (w : World) (o : Obj) : (w.alloc o).heap.size = w.heap.size + 1 := by show (w.heap.push _).size = _; exact Array.size_push _
structure LK (w0 w W : World) (g : Nat) (f0 f1 f2 : Int) (f3 : Bool) (f4 : Int) : Prop where
 st : IsS42 w0 W g f0 f1 f2 f3 f4
 bel : Below w0.heap.size w0 W
 keep : KeepBut w W g none
theorem LK.drew {w0 w W : World} {g : Nat} {f0 f1 f2 : Int} {f3 : Bool} {f4 : Int} (h : LK w0 w W g f0 f1 f2 f3 f4) : LK w0 w W.drew g f0 f1 f2 f3 f4 :=
 ⟨IsS42.drew h.st, below_drew1 h.bel, keep_drew h.keep⟩
theorem LK.drewN {w0 w W : World} {g : Nat} {f0 f1 f2 : Int} {f3 : Bool} {f4 : Int} (h : LK w0 w W g f0 f1 f2 f3 f4) (n : Nat) : LK w0 w (W.drewN n) g f0 f1 f2 f3 f4 :=
 ⟨IsS42.drewN h.st n, pw_below_drewN h.bel n, keep_drewN h.keep n⟩
structure LH (w0 w W : World) (g b : Nat) (f0 f1 f2 : Int) (f3 : Bool) (f4 r0 r1 r2 r3 r4 : Int) : Prop where
 st : IsS42 w0 W g f0 f1 f2 f3 f4
 bel : Below w0.heap.size w0 W
 keep : KeepBut w W g none
 row : W.heap[b]? = some (.cells #[.int .i64 r0, .int .i64 r1, .int .i64 r2, .int .i64 r3, .int .i64 r4] 45 (0, 0))
theorem LH.below {w0 w W W1 : World} {g b : Nat} {f0 f1 f2 : Int} {f3 : Bool} {f4 r0 r1 r2 r3 r4 : Int} (h : LH w0 w W g b f0 f1 f2 f3 f4 r0 r1 r2 r3 r4) (hb : Below W.heap.size W W1) : LH w0 w W1 g b f0 f1 f2 f3 f4 r0 r1 r2 r3 r4 :=
 ⟨IsS42.below h.st hb, below_step h.bel hb, KeepBut.trans h.keep (KeepBut.of_below hb g none) (.inl rfl), blk_below h.row hb⟩
theorem LH.drew {w0 w W : World} {g b : Nat} {f0 f1 f2 : Int} {f3 : Bool} {f4 r0 r1 r2 r3 r4 : Int} (h : LH w0 w W g b f0 f1 f2 f3 f4 r0 r1 r2 r3 r4) : LH w0 w W.drew g b f0 f1 f2 f3 f4 r0 r1 r2 r3 r4 :=
 ⟨IsS42.drew h.st, below_drew1 h.bel, keep_drew h.keep, blk_drew h.row⟩
set_option maxHeartbeats 8000000 in
set_option maxRecDepth 100000 in
theorem lossy_upd0 (g : Nat) (s0_0 s0_1 s0_2 : Int) (s0_3 : Bool) (s0_4 a1 a2 n t : Int) (w0 w : World) (hI : IsS42 w0 w g s0_0 s0_1 s0_2 s0_3 s0_4) (hB : Below w0.heap.size w0 w) (hG : GL w0) (q : Int) (Aq : muldiv_Do.f s0_0 (wrap64 (105 - wrap64 0)) 100 3 = some q) (t3 : Int) (A3 : sat_Clamp.f (wrap64 (q + 1000)) s0_1 s0_2 = some t3) (At : sat_Clamp.f a2 0 1125899906842624 = some t) (An : sat_Clamp.f a1 0 256 = some n) (cn : n ≤ 5) (hn : n ≤ 256) (c : s0_3 = false ∨ s0_3 = true ∧ decide (wrap64 (t - s0_4) < 200000) = false) :
  Calls Tryd.prog 9 #[.pointer (some ⟨g, 0, none⟩), .int .i64 a1, .int .i64 a2] w fun e w' => e = .returned (.int .i64 t3) ∧ IsS42 w0 w' g t3 s0_1 s0_2 true t ∧ Below w0.heap.size w0 w' ∧ KeepBut w w' g none := by
 have hpn : ∀ (a_ : Addr) (W_ : World), (Go.binOp .eql 24 (.pointer (some a_)) (.pointer none)).run Tryd.prog W_ = .ok (.bool false) W_ := fun _ _ => by kernel_rfl
 have hix0 : ∀ W_ : World, (Instr.index 46 (.agg #[.int .i64 5, .int .i64 105, .int .i64 100, .int .i64 1000, .int .i64 0, .int .i64 26, .int .i64 1, .int .i64 1, .int .i64 0, .int .i64 0, .int .i64 256, .int .i64 512, .int .i64 512, .int .i64 0, .int .i64 1]) (.int .i64 0)).run Tryd.prog W_ = .ok (.agg #[.int .i64 5, .int .i64 105, .int .i64 100, .int .i64 1000, .int .i64 0]) W_ := fun _ => by kernel_rfl
 have hix1 : ∀ W_ : World, (Instr.index 46 (.agg #[.int .i64 5, .int .i64 105, .int .i64 100, .int .i64 1000, .int .i64 0, .int .i64 26, .int .i64 1, .int .i64 1, .int .i64 0, .int .i64 0, .int .i64 256, .int .i64 512, .int .i64 512, .int .i64 0, .int .i64 1]) (.int .i64 1)).run Tryd.prog W_ = .ok (.agg #[.int .i64 26, .int .i64 1, .int .i64 1, .int .i64 0, .int .i64 0]) W_ := fun _ => by kernel_rfl
 have hix2 : ∀ W_ : World, (Instr.index 46 (.agg #[.int .i64 5, .int .i64 105, .int .i64 100, .int .i64 1000, .int .i64 0, .int .i64 26, .int .i64 1, .int .i64 1, .int .i64 0, .int .i64 0, .int .i64 256, .int .i64 512, .int .i64 512, .int .i64 0, .int .i64 1]) (.int .i64 2)).run Tryd.prog W_ = .ok (.agg #[.int .i64 256, .int .i64 512, .int .i64 512, .int .i64 0, .int .i64 1]) W_ := fun _ => by kernel_rfl
 have cn0_ : decide (5 < n) = false := decide_eq_false (by omega)
 rcases c with c | ⟨c, hc⟩
 ·subst c
  go_enter Tryd.func9, Tryd.ntmps9
  go_wp2_with (first | ((with_reducible refine gate_dst (N := 14) rfl ?_); refine goesL_ (some 14) rfl rfl Tryd.func15 (by kernel_rfl) rfl #[.int .i64 a2, .int .i64 0, .int .i64 1125899906842624] rfl (by (try simp only [List.map_toArray, List.map_cons, List.map_nil]); first | done | rfl) ?_; (with_reducible refine (sat_Clamp.calls a2 0 1125899906842624 t _ At).mono ?_); rintro e w' ⟨rfl, ⟨nd, rfl⟩⟩; refine ⟨_, rfl, ?_⟩; have hI1 := IsS42.drewN hI nd; have hB1 := pw_below_drewN hB nd; have hK1 := keep_drewN (KeepBut.refl w g none) nd; generalize World.drewN w nd = W1 at hI1 hB1 hK1 ⊢; have hc0_ : W1.cell? ⟨g, 0, none⟩ = some (.int .i64 s0_0) := IsS42.cell_0 hI1; have hf0_ := IsS42.froz_0 hI1; have hc1_ : W1.cell? ⟨g, 1, none⟩ = some (.int .i64 s0_1) := IsS42.cell_1 hI1; have hf1_ := IsS42.froz_1 hI1; have hc2_ : W1.cell? ⟨g, 2, none⟩ = some (.int .i64 s0_2) := IsS42.cell_2 hI1; have hf2_ := IsS42.froz_2 hI1; have hc3_ : W1.cell? ⟨g, 3, none⟩ = some (.bool false) := IsS42.cell_3 hI1; have hf3_ := IsS42.froz_3 hI1; have hc4_ : W1.cell? ⟨g, 4, none⟩ = some (.int .i64 s0_4) := IsS42.cell_4 hI1; have hf4_ := IsS42.froz_4 hI1) | ((with_reducible refine gate_dst (N := 40) rfl ?_); refine goesL_ (some 40) rfl rfl Tryd.func15 (by kernel_rfl) rfl #[.int .i64 a1, .int .i64 0, .int .i64 256] rfl (by (try simp only [List.map_toArray, List.map_cons, List.map_nil]); first | done | rfl) ?_; (with_reducible refine (sat_Clamp.calls a1 0 256 n _ An).mono ?_); rintro e w' ⟨rfl, ⟨nd, rfl⟩⟩; refine ⟨_, rfl, ?_⟩; have hI2 := IsS42.drewN (IsS42.set_4 (IsS42.set_3 hI1 true) t) nd; have hB2 := pw_below_drewN (below_set (below_set hB1 (IsS42.ge hI1) (j := 3) (v := .bool true)) (IsS42.ge hI1) (j := 4) (v := .int .i64 t)) nd; have hK2 := keep_drewN (KeepBut.set_ (KeepBut.set_ hK1 3 (.bool true)) 4 (.int .i64 t)) nd; clear hI1 hB1 hK1; clear hc0_ hf0_ hc1_ hf1_ hc2_ hf2_ hc3_ hf3_ hc4_ hf4_; generalize World.drewN ((W1.setCell ⟨g, 3, none⟩ (.bool true)).setCell ⟨g, 4, none⟩ (.int .i64 t)) nd = W2 at hI2 hB2 hK2 ⊢; have hc0_ : W2.cell? ⟨g, 0, none⟩ = some (.int .i64 s0_0) := IsS42.cell_0 hI2; have hf0_ := IsS42.froz_0 hI2; have hc1_ : W2.cell? ⟨g, 1, none⟩ = some (.int .i64 s0_1) := IsS42.cell_1 hI2; have hf1_ := IsS42.froz_1 hI2; have hc2_ : W2.cell? ⟨g, 2, none⟩ = some (.int .i64 s0_2) := IsS42.cell_2 hI2; have hf2_ := IsS42.froz_2 hI2; have hc3_ : W2.cell? ⟨g, 3, none⟩ = some (.bool true) := IsS42.cell_3 hI2; have hf3_ := IsS42.froz_3 hI2; have hc4_ : W2.cell? ⟨g, 4, none⟩ = some (.int .i64 t) := IsS42.cell_4 hI2; have hf4_ := IsS42.froz_4 hI2; have hG2 := hG.below hB2; obtain ⟨q0, q1, q2, q3, q4, q5, q6, q7, q8, q9, q10, q11, q12, q13, q14⟩ := hG2))
  refine wp_loop_rounds 4 ?_
  rw [rounds_succ]
  go_wp2
  refine namedG_ ?_
  intro W3 hW3
  have h1 : LH w0 w W3 g W2.heap.size s0_0 s0_1 s0_2 true t 5 105 100 1000 0 := by rw [hW3]; exact ⟨IsS42.alloc (hI2) _, below_alloc (hB2) _, keep_alloc (hK2) _, blk_new _ _⟩
  clear hW3 hI2 hB2 hK2
  generalize W2.heap.size = b at h1 ⊢
  refine start_ (n := 22) (S := fun w' => LH w0 w w' g b s0_0 s0_1 s0_2 true t 5 105 100 1000 0) (ds := [21]) #[false, false, false, false, false, false, false, false, false, false, false, false, false, false, false, false, false, false, false, false, false, false] (by kernel_rfl) rfl rfl h1.drew (fun hHeld => ?_)
  clear h1
  generalize W3.drew = W3 at hHeld ⊢
  refine pure_ (i := 0) (N := some 52) (v := ?_) (a' := ?_) #[true, false, false, false, false, false, false, false, false, false, false, false, false, false, false, false, false, false, false, false, false, false] rfl rfl (by kernel_rfl) (fun _ _ _ h => h) (Or.inl ⟨by rfl, ?_⟩) ?_ ?_
  rotate_left
  ·intro w'
   go_simp
   with_reducible rfl
  rotate_left
  ·simp only [Act.put, List.setIfInBounds_toArray, List.set_cons_zero, List.set_cons_succ, i64_w, i32_w]
   rfl
  refine pure_ (i := 1) (N := some 53) (v := ?_) (a' := ?_) #[true, true, false, false, false, false, false, false, false, false, false, false, false, false, false, false, false, false, false, false, false, false] rfl rfl (by kernel_rfl) (fun _ _ _ h => h) (Or.inl ⟨by rfl, ?_⟩) ?_ ?_
  rotate_left
  ·intro w'
   go_simp
   with_reducible rfl
  rotate_left
  ·simp only [Act.put, List.setIfInBounds_toArray, List.set_cons_zero, List.set_cons_succ, i64_w, i32_w]
   rfl
  refine pure_ (i := 2) (N := some 54) (v := ?_) (a' := ?_) #[true, true, true, false, false, false, false, false, false, false, false, false, false, false, false, false, false, false, false, false, false, false] rfl rfl (by kernel_rfl) (fun _ _ _ h => h) (Or.inl ⟨by rfl, ?_⟩) ?_ ?_
  rotate_left
  ·intro w'
   go_simp
   with_reducible rfl
  rotate_left
  ·simp only [Act.put, List.setIfInBounds_toArray, List.set_cons_zero, List.set_cons_succ, i64_w, i32_w]
   rfl
  refine pure_ (i := 3) (N := some 55) (v := ?_) (a' := ?_) #[true, true, true, true, false, false, false, false, false, false, false, false, false, false, false, false, false, false, false, false, false, false] rfl rfl (by kernel_rfl) (fun _ _ _ h => h) (Or.inl ⟨by rfl, ?_⟩) ?_ ?_
  rotate_left
  ·intro w'
   go_simp
   with_reducible rfl
  rotate_left
  ·simp only [Act.put, List.setIfInBounds_toArray, List.set_cons_zero, List.set_cons_succ, i64_w, i32_w]
   rfl
  refine take_ (i := 4) (N := some 56) (v := ?_) (a' := ?_) #[true, true, true, true, true, false, false, false, false, false, false, false, false, false, false, false, false, false, false, false, false, false] rfl rfl (by kernel_rfl) (fun _ _ _ h => h) (Or.inl ⟨by rfl, ?_⟩) hHeld ?_ ?_
  rotate_left
  ·intro w' hw'
   have cb0_ : w'.cell? ⟨g, 0, none⟩ = some (.int .i64 s0_0) := IsS42.cell_0 hw'.st
   go_simp
   with_reducible rfl
  rotate_left
  ·simp only [Act.put, List.setIfInBounds_toArray, List.set_cons_zero, List.set_cons_succ, i64_w, i32_w]
   rfl
  refine pure_ (i := 5) (N := some 57) (v := ?_) (a' := ?_) #[true, true, true, true, true, true, false, false, false, false, false, false, false, false, false, false, false, false, false, false, false, false] rfl rfl (by kernel_rfl) (fun _ _ _ h => h) (Or.inl ⟨by rfl, ?_⟩) ?_ ?_
  rotate_left
  ·intro w'
   go_simp
   with_reducible rfl
  rotate_left
  ·simp only [Act.put, List.setIfInBounds_toArray, List.set_cons_zero, List.set_cons_succ, i64_w, i32_w]
   rfl
  refine take_ (i := 6) (N := some 58) (v := ?_) (a' := ?_) #[true, true, true, true, true, true, true, false, false, false, false, false, false, false, false, false, false, false, false, false, false, false] rfl rfl (by kernel_rfl) (fun _ _ _ h => h) (Or.inl ⟨by rfl, ?_⟩) hHeld ?_ ?_
  rotate_left
  ·intro w' hw'
   have cb0_ : w'.cell? ⟨b, 1, none⟩ = some (.int .i64 105) := (blk_cell hw'.row 1).trans rfl
   go_simp
   with_reducible rfl
  rotate_left
  ·simp only [Act.put, List.setIfInBounds_toArray, List.set_cons_zero, List.set_cons_succ, i64_w, i32_w]
   rfl
  refine pure_ (i := 7) (N := some 59) (v := ?_) (a' := ?_) #[true, true, true, true, true, true, true, true, false, false, false, false, false, false, false, false, false, false, false, false, false, false] rfl rfl (by kernel_rfl) (fun _ _ _ h => h) (Or.inl ⟨by rfl, ?_⟩) ?_ ?_
  rotate_left
  ·intro w'
   go_simp
   with_reducible rfl
  rotate_left
  ·simp only [Act.put, List.setIfInBounds_toArray, List.set_cons_zero, List.set_cons_succ, i64_w, i32_w]
   rfl
  refine take_ (i := 8) (N := some 60) (v := ?_) (a' := ?_) #[true, true, true, true, true, true, true, true, true, false, false, false, false, false, false, false, false, false, false, false, false, false] rfl rfl (by kernel_rfl) (fun _ _ _ h => h) (Or.inl ⟨by rfl, ?_⟩) hHeld ?_ ?_
  rotate_left
  ·intro w' hw'
   have cb0_ : w'.cell? ⟨b, 4, none⟩ = some (.int .i64 0) := (blk_cell hw'.row 4).trans rfl
   go_simp
   with_reducible rfl
  rotate_left
  ·simp only [Act.put, List.setIfInBounds_toArray, List.set_cons_zero, List.set_cons_succ, i64_w, i32_w]
   rfl
  refine pure_ (i := 9) (N := some 61) (v := ?_) (a' := ?_) #[true, true, true, true, true, true, true, true, true, true, false, false, false, false, false, false, false, false, false, false, false, false] rfl rfl (by kernel_rfl) (fun _ _ _ h => h) (Or.inl ⟨by rfl, ?_⟩) ?_ ?_
  rotate_left
  ·intro w'
   go_simp
   with_reducible rfl
  rotate_left
  ·simp only [Act.put, List.setIfInBounds_toArray, List.set_cons_zero, List.set_cons_succ, i64_w, i32_w]
   rfl
  refine pure_ (i := 10) (N := some 62) (v := ?_) (a' := ?_) #[true, true, true, true, true, true, true, true, true, true, true, false, false, false, false, false, false, false, false, false, false, false] rfl rfl (by kernel_rfl) (fun _ _ _ h => h) (Or.inl ⟨by rfl, ?_⟩) ?_ ?_
  rotate_left
  ·intro w'
   go_simp
   with_reducible rfl
  rotate_left
  ·simp only [Act.put, List.setIfInBounds_toArray, List.set_cons_zero, List.set_cons_succ, i64_w, i32_w]
   rfl
  refine pure_ (i := 11) (N := some 63) (v := ?_) (a' := ?_) #[true, true, true, true, true, true, true, true, true, true, true, true, false, false, false, false, false, false, false, false, false, false] rfl rfl (by kernel_rfl) (fun _ _ _ h => h) (Or.inl ⟨by rfl, ?_⟩) ?_ ?_
  rotate_left
  ·intro w'
   go_simp
   with_reducible rfl
  rotate_left
  ·simp only [Act.put, List.setIfInBounds_toArray, List.set_cons_zero, List.set_cons_succ, i64_w, i32_w]
   rfl
  refine pure_ (i := 12) (N := some 64) (v := ?_) (a' := ?_) #[true, true, true, true, true, true, true, true, true, true, true, true, true, false, false, false, false, false, false, false, false, false] rfl rfl (by kernel_rfl) (fun _ _ _ h => h) (Or.inl ⟨by rfl, ?_⟩) ?_ ?_
  rotate_left
  ·intro w'
   go_simp
   with_reducible rfl
  rotate_left
  ·simp only [Act.put, List.setIfInBounds_toArray, List.set_cons_zero, List.set_cons_succ, i64_w, i32_w]
   rfl
  refine take_ (i := 13) (N := some 65) (v := ?_) (a' := ?_) #[true, true, true, true, true, true, true, true, true, true, true, true, true, true, false, false, false, false, false, false, false, false] rfl rfl (by kernel_rfl) (fun _ _ _ h => h) (Or.inl ⟨by rfl, ?_⟩) hHeld ?_ ?_
  rotate_left
  ·intro w' hw'
   have cb0_ : w'.cell? ⟨b, 2, none⟩ = some (.int .i64 100) := (blk_cell hw'.row 2).trans rfl
   go_simp
   with_reducible rfl
  rotate_left
  ·simp only [Act.put, List.setIfInBounds_toArray, List.set_cons_zero, List.set_cons_succ, i64_w, i32_w]
   rfl
  refine pure_ (i := 14) (N := some 66) (v := ?_) (a' := ?_) #[true, true, true, true, true, true, true, true, true, true, true, true, true, true, true, false, false, false, false, false, false, false] rfl rfl (by kernel_rfl) (fun _ _ _ h => h) (Or.inl ⟨by rfl, ?_⟩) ?_ ?_
  rotate_left
  ·intro w'
   go_simp
   with_reducible rfl
  rotate_left
  ·simp only [Act.put, List.setIfInBounds_toArray, List.set_cons_zero, List.set_cons_succ, i64_w, i32_w]
   rfl
  refine pure_ (i := 16) (N := some 68) (v := ?_) (a' := ?_) #[true, true, true, true, true, true, true, true, true, true, true, true, true, true, true, false, true, false, false, false, false, false] rfl rfl (by kernel_rfl) (fun _ _ _ h => h) (Or.inl ⟨by rfl, ?_⟩) ?_ ?_
  rotate_left
  ·intro w'
   go_simp
   with_reducible rfl
  rotate_left
  ·simp only [Act.put, List.setIfInBounds_toArray, List.set_cons_zero, List.set_cons_succ, i64_w, i32_w]
   rfl
  refine take_ (i := 17) (N := some 69) (v := ?_) (a' := ?_) #[true, true, true, true, true, true, true, true, true, true, true, true, true, true, true, false, true, true, false, false, false, false] rfl rfl (by kernel_rfl) (fun _ _ _ h => h) (Or.inl ⟨by rfl, ?_⟩) hHeld ?_ ?_
  rotate_left
  ·intro w' hw'
   have cb0_ : w'.cell? ⟨b, 3, none⟩ = some (.int .i64 1000) := (blk_cell hw'.row 3).trans rfl
   go_simp
   with_reducible rfl
  rotate_left
  ·simp only [Act.put, List.setIfInBounds_toArray, List.set_cons_zero, List.set_cons_succ, i64_w, i32_w]
   rfl
  refine one_ (i := 15) (N := some 67) #[true, true, true, true, true, true, true, true, true, true, true, true, true, true, true, true, true, true, false, false, false, false] rfl rfl (by kernel_rfl) (by decide) (fun K hK => ?_)
  refine goes_ Tryd.func16 (by kernel_rfl) rfl #[.int .i64 s0_0, .int .i64 (wrap64 (105 - wrap64 0)), .int .i64 100, .int .i64 3] (by rfl) rfl rfl (by simp only [List.map_toArray, List.map_cons, List.map_nil]; rfl) ?_
  refine (muldiv_Do.calls s0_0 _ 100 3 q _ Aq).mono ?_
  rintro e w' ⟨rfl, hb⟩
  refine ⟨_, rfl, ?_⟩
  have hN_ := hHeld.below hb
  refine hK.out _ _ hN_ (fun hHeld => ?_)
  clear hK K hN_ hb
  refine norm_ (a' := ?_) ?_ ?_
  rotate_left
  ·show Act.put _ (some 67) _ = _
   simp only [Act.put, List.setIfInBounds_toArray, List.set_cons_zero, List.set_cons_succ, i64_w, i32_w]
   rfl
  refine pure_ (i := 18) (N := some 70) (v := ?_) (a' := ?_) #[true, true, true, true, true, true, true, true, true, true, true, true, true, true, true, true, true, true, true, false, false, false] rfl rfl (by kernel_rfl) (fun _ _ _ h => h) (Or.inl ⟨by rfl, ?_⟩) ?_ ?_
  rotate_left
  ·intro w'
   go_simp
   with_reducible rfl
  rotate_left
  ·simp only [Act.put, List.setIfInBounds_toArray, List.set_cons_zero, List.set_cons_succ, i64_w, i32_w]
   rfl
  refine pure_ (i := 19) (N := some 71) (v := ?_) (a' := ?_) #[true, true, true, true, true, true, true, true, true, true, true, true, true, true, true, true, true, true, true, true, false, false] rfl rfl (by kernel_rfl) (fun _ _ _ h => h) (Or.inl ⟨by rfl, ?_⟩) ?_ ?_
  rotate_left
  ·intro w'
   go_simp
   with_reducible rfl
  rotate_left
  ·simp only [Act.put, List.setIfInBounds_toArray, List.set_cons_zero, List.set_cons_succ, i64_w, i32_w]
   rfl
  refine pure_ (i := 20) (N := some 72) (v := ?_) (a' := ?_) #[true, true, true, true, true, true, true, true, true, true, true, true, true, true, true, true, true, true, true, true, true, false] rfl rfl (by kernel_rfl) (fun _ _ _ h => h) (Or.inl ⟨by rfl, ?_⟩) ?_ ?_
  rotate_left
  ·intro w'
   go_simp
   with_reducible rfl
  rotate_left
  ·simp only [Act.put, List.setIfInBounds_toArray, List.set_cons_zero, List.set_cons_succ, i64_w, i32_w]
   rfl
  refine last_ (i := 21) (N := none) #[true, true, true, true, true, true, true, true, true, true, true, true, true, true, true, true, true, true, true, true, true, true] rfl rfl (by kernel_rfl) (by decide) (fun K hK => ?_)
  have hs0_ : w'.cell? ⟨g, 0, none⟩ = some (.int .i64 s0_0) := IsS42.cell_0 hHeld.st
  have hf0_ := IsS42.froz_0 hHeld.st
  refine skip_ (w1 := ?_) (by rfl) rfl ?_ ?_
  rotate_left
  ·go_simp
   rfl
  refine hK.out _ _ ?_
  refine done_ (by kernel_rfl) ?_
  clear hK K
  clear hs0_
  clear hf0_
  have h2 : IsS42 w0 (w'.setCell ⟨g, 0, none⟩ (.int .i64 (wrap64 (q + 1000)))) g (wrap64 (q + 1000)) s0_1 s0_2 true t := IsS42.set_0 hHeld.st _
  have hb2 := below_set hHeld.bel (IsS42.ge hHeld.st) (j := 0) (v := .int .i64 (wrap64 (q + 1000)))
  have hk2 := KeepBut.set_ hHeld.keep 0 (.int .i64 (wrap64 (q + 1000)))
  clear hHeld
  generalize w'.setCell ⟨g, 0, none⟩ (.int .i64 (wrap64 (q + 1000))) = W5 at h2 hb2 hk2 ⊢
  try go_wp2
  have h3 : LK w0 w W5 g (wrap64 (q + 1000)) s0_1 s0_2 true t := ⟨h2, hb2, hk2⟩
  clear h2 hb2 hk2
  refine start_ (n := 17) (S := fun w' => LK w0 w w' g (wrap64 (q + 1000)) s0_1 s0_2 true t) (ds := [16]) #[false, false, false, false, false, false, false, false, false, false, false, false, false, false, false, false, false] (by kernel_rfl) rfl rfl h3.drew (fun hHeld => ?_)
  clear h3
  generalize W5.drew = W5 at hHeld ⊢
  refine pure_ (i := 0) (N := some 74) (v := ?_) (a' := ?_) #[true, false, false, false, false, false, false, false, false, false, false, false, false, false, false, false, false] rfl rfl (by kernel_rfl) (fun _ _ _ h => h) (Or.inl ⟨by rfl, ?_⟩) ?_ ?_
  rotate_left
  ·intro w'
   go_simp
   with_reducible rfl
  rotate_left
  ·simp only [Act.put, List.setIfInBounds_toArray, List.set_cons_zero, List.set_cons_succ, i64_w, i32_w]
   rfl
  refine pure_ (i := 1) (N := some 75) (v := ?_) (a' := ?_) #[true, true, false, false, false, false, false, false, false, false, false, false, false, false, false, false, false] rfl rfl (by kernel_rfl) (fun _ _ _ h => h) (Or.inl ⟨by rfl, ?_⟩) ?_ ?_
  rotate_left
  ·intro w'
   go_simp
   with_reducible rfl
  rotate_left
  ·simp only [Act.put, List.setIfInBounds_toArray, List.set_cons_zero, List.set_cons_succ, i64_w, i32_w]
   rfl
  refine pure_ (i := 2) (N := some 76) (v := ?_) (a' := ?_) #[true, true, true, false, false, false, false, false, false, false, false, false, false, false, false, false, false] rfl rfl (by kernel_rfl) (fun _ _ _ h => h) (Or.inl ⟨by rfl, ?_⟩) ?_ ?_
  rotate_left
  ·intro w'
   go_simp
   with_reducible rfl
  rotate_left
  ·simp only [Act.put, List.setIfInBounds_toArray, List.set_cons_zero, List.set_cons_succ, i64_w, i32_w]
   rfl
  refine pure_ (i := 3) (N := some 77) (v := ?_) (a' := ?_) #[true, true, true, true, false, false, false, false, false, false, false, false, false, false, false, false, false] rfl rfl (by kernel_rfl) (fun _ _ _ h => h) (Or.inl ⟨by rfl, ?_⟩) ?_ ?_
  rotate_left
  ·intro w'
   go_simp
   with_reducible rfl
  rotate_left
  ·simp only [Act.put, List.setIfInBounds_toArray, List.set_cons_zero, List.set_cons_succ, i64_w, i32_w]
   rfl
  refine take_ (i := 4) (N := some 78) (v := ?_) (a' := ?_) #[true, true, true, true, true, false, false, false, false, false, false, false, false, false, false, false, false] rfl rfl (by kernel_rfl) (fun _ _ _ h => h) (Or.inl ⟨by rfl, ?_⟩) hHeld ?_ ?_
  rotate_left
  ·intro w' hw'
   have cb0_ : w'.cell? ⟨g, 0, none⟩ = some (.int .i64 (wrap64 (q + 1000))) := IsS42.cell_0 hw'.st
   go_simp
   with_reducible rfl
  rotate_left
  ·simp only [Act.put, List.setIfInBounds_toArray, List.set_cons_zero, List.set_cons_succ, i64_w, i32_w]
   rfl
  refine pure_ (i := 5) (N := some 79) (v := ?_) (a' := ?_) #[true, true, true, true, true, true, false, false, false, false, false, false, false, false, false, false, false] rfl rfl (by kernel_rfl) (fun _ _ _ h => h) (Or.inl ⟨by rfl, ?_⟩) ?_ ?_
  rotate_left
  ·intro w'
   go_simp
   with_reducible rfl
  rotate_left
  ·simp only [Act.put, List.setIfInBounds_toArray, List.set_cons_zero, List.set_cons_succ, i64_w, i32_w]
   rfl
  refine pure_ (i := 6) (N := some 80) (v := ?_) (a' := ?_) #[true, true, true, true, true, true, true, false, false, false, false, false, false, false, false, false, false] rfl rfl (by kernel_rfl) (fun _ _ _ h => h) (Or.inl ⟨by rfl, ?_⟩) ?_ ?_
  rotate_left
  ·intro w'
   go_simp
   with_reducible rfl
  rotate_left
  ·simp only [Act.put, List.setIfInBounds_toArray, List.set_cons_zero, List.set_cons_succ, i64_w, i32_w]
   rfl
  refine pure_ (i := 7) (N := some 81) (v := ?_) (a' := ?_) #[true, true, true, true, true, true, true, true, false, false, false, false, false, false, false, false, false] rfl rfl (by kernel_rfl) (fun _ _ _ h => h) (Or.inl ⟨by rfl, ?_⟩) ?_ ?_
  rotate_left
  ·intro w'
   go_simp
   with_reducible rfl
  rotate_left
  ·simp only [Act.put, List.setIfInBounds_toArray, List.set_cons_zero, List.set_cons_succ, i64_w, i32_w]
   rfl
  refine take_ (i := 8) (N := some 82) (v := ?_) (a' := ?_) #[true, true, true, true, true, true, true, true, true, false, false, false, false, false, false, false, false] rfl rfl (by kernel_rfl) (fun _ _ _ h => h) (Or.inl ⟨by rfl, ?_⟩) hHeld ?_ ?_
  rotate_left
  ·intro w' hw'
   have cb0_ : w'.cell? ⟨g, 1, none⟩ = some (.int .i64 s0_1) := IsS42.cell_1 hw'.st
   go_simp
   with_reducible rfl
  rotate_left
  ·simp only [Act.put, List.setIfInBounds_toArray, List.set_cons_zero, List.set_cons_succ, i64_w, i32_w]
   rfl
  refine pure_ (i := 9) (N := some 83) (v := ?_) (a' := ?_) #[true, true, true, true, true, true, true, true, true, true, false, false, false, false, false, false, false] rfl rfl (by kernel_rfl) (fun _ _ _ h => h) (Or.inl ⟨by rfl, ?_⟩) ?_ ?_
  rotate_left
  ·intro w'
   go_simp
   with_reducible rfl
  rotate_left
  ·simp only [Act.put, List.setIfInBounds_toArray, List.set_cons_zero, List.set_cons_succ, i64_w, i32_w]
   rfl
  refine pure_ (i := 10) (N := some 84) (v := ?_) (a' := ?_) #[true, true, true, true, true, true, true, true, true, true, true, false, false, false, false, false, false] rfl rfl (by kernel_rfl) (fun _ _ _ h => h) (Or.inl ⟨by rfl, ?_⟩) ?_ ?_
  rotate_left
  ·intro w'
   go_simp
   with_reducible rfl
  rotate_left
  ·simp only [Act.put, List.setIfInBounds_toArray, List.set_cons_zero, List.set_cons_succ, i64_w, i32_w]
   rfl
  refine pure_ (i := 11) (N := some 85) (v := ?_) (a' := ?_) #[true, true, true, true, true, true, true, true, true, true, true, true, false, false, false, false, false] rfl rfl (by kernel_rfl) (fun _ _ _ h => h) (Or.inl ⟨by rfl, ?_⟩) ?_ ?_
  rotate_left
  ·intro w'
   go_simp
   with_reducible rfl
  rotate_left
  ·simp only [Act.put, List.setIfInBounds_toArray, List.set_cons_zero, List.set_cons_succ, i64_w, i32_w]
   rfl
  refine take_ (i := 12) (N := some 86) (v := ?_) (a' := ?_) #[true, true, true, true, true, true, true, true, true, true, true, true, true, false, false, false, false] rfl rfl (by kernel_rfl) (fun _ _ _ h => h) (Or.inl ⟨by rfl, ?_⟩) hHeld ?_ ?_
  rotate_left
  ·intro w' hw'
   have cb0_ : w'.cell? ⟨g, 2, none⟩ = some (.int .i64 s0_2) := IsS42.cell_2 hw'.st
   go_simp
   with_reducible rfl
  rotate_left
  ·simp only [Act.put, List.setIfInBounds_toArray, List.set_cons_zero, List.set_cons_succ, i64_w, i32_w]
   rfl
  refine one_ (i := 13) (N := some 87) #[true, true, true, true, true, true, true, true, true, true, true, true, true, true, false, false, false] rfl rfl (by kernel_rfl) (by decide) (fun K hK => ?_)
  refine goes_ Tryd.func15 (by kernel_rfl) rfl #[.int .i64 (wrap64 (q + 1000)), .int .i64 s0_1, .int .i64 s0_2] (by rfl) rfl rfl (by simp only [List.map_toArray, List.map_cons, List.map_nil]; rfl) ?_
  with_reducible refine (sat_Clamp.calls (wrap64 (q + 1000)) s0_1 s0_2 t3 _ A3).mono ?_
  rintro e w' ⟨rfl, ⟨nd, rfl⟩⟩
  refine ⟨_, rfl, ?_⟩
  have hN_ := hHeld.drewN nd
  refine hK.out _ _ hN_ (fun hHeld => ?_)
  clear hK K hN_
  generalize W5.drewN nd = W5_ at hHeld ⊢
  refine norm_ (a' := ?_) ?_ ?_
  rotate_left
  ·show Act.put _ (some 87) _ = _
   simp only [Act.put, List.setIfInBounds_toArray, List.set_cons_zero, List.set_cons_succ, i64_w, i32_w]
   rfl
  refine pure_ (i := 14) (N := some 88) (v := ?_) (a' := ?_) #[true, true, true, true, true, true, true, true, true, true, true, true, true, true, true, false, false] rfl rfl (by kernel_rfl) (fun _ _ _ h => h) (Or.inl ⟨by rfl, ?_⟩) ?_ ?_
  rotate_left
  ·intro w'
   go_simp
   with_reducible rfl
  rotate_left
  ·simp only [Act.put, List.setIfInBounds_toArray, List.set_cons_zero, List.set_cons_succ, i64_w, i32_w]
   rfl
  refine pure_ (i := 15) (N := some 89) (v := ?_) (a' := ?_) #[true, true, true, true, true, true, true, true, true, true, true, true, true, true, true, true, false] rfl rfl (by kernel_rfl) (fun _ _ _ h => h) (Or.inl ⟨by rfl, ?_⟩) ?_ ?_
  rotate_left
  ·intro w'
   go_simp
   with_reducible rfl
  rotate_left
  ·simp only [Act.put, List.setIfInBounds_toArray, List.set_cons_zero, List.set_cons_succ, i64_w, i32_w]
   rfl
  refine last_ (i := 16) (N := none) #[true, true, true, true, true, true, true, true, true, true, true, true, true, true, true, true, true] rfl rfl (by kernel_rfl) (by decide) (fun K hK => ?_)
  have hs0_ : W5_.cell? ⟨g, 0, none⟩ = some (.int .i64 (wrap64 (q + 1000))) := IsS42.cell_0 hHeld.st
  have hf0_ := IsS42.froz_0 hHeld.st
  refine skip_ (w1 := ?_) (by rfl) rfl ?_ ?_
  rotate_left
  ·go_simp
   rfl
  refine hK.out _ _ ?_
  refine done_ (by kernel_rfl) ?_
  clear hK K
  clear hs0_
  clear hf0_
  have h4 := IsS42.set_0 hHeld.st t3
  have hb4 := below_set hHeld.bel (IsS42.ge hHeld.st) (j := 0) (v := .int .i64 t3)
  have hk4 := KeepBut.set_ hHeld.keep 0 (.int .i64 t3)
  clear hHeld
  generalize W5_.setCell ⟨g, 0, none⟩ (.int .i64 t3) = W6 at h4 hb4 hk4 ⊢
  have hc0_ := IsS42.cell_0 h4
  go_wp2
  go_ret
  exact ⟨rfl, h4, hb4, hk4⟩
 ·subst c
  go_enter Tryd.func9, Tryd.ntmps9
  go_wp2_with (first | ((with_reducible refine gate_dst (N := 14) rfl ?_); refine goesL_ (some 14) rfl rfl Tryd.func15 (by kernel_rfl) rfl #[.int .i64 a2, .int .i64 0, .int .i64 1125899906842624] rfl (by (try simp only [List.map_toArray, List.map_cons, List.map_nil]); first | done | rfl) ?_; (with_reducible refine (sat_Clamp.calls a2 0 1125899906842624 t _ At).mono ?_); rintro e w' ⟨rfl, ⟨nd, rfl⟩⟩; refine ⟨_, rfl, ?_⟩; have hI1 := IsS42.drewN hI nd; have hB1 := pw_below_drewN hB nd; have hK1 := keep_drewN (KeepBut.refl w g none) nd; generalize World.drewN w nd = W1 at hI1 hB1 hK1 ⊢; have hc0_ : W1.cell? ⟨g, 0, none⟩ = some (.int .i64 s0_0) := IsS42.cell_0 hI1; have hf0_ := IsS42.froz_0 hI1; have hc1_ : W1.cell? ⟨g, 1, none⟩ = some (.int .i64 s0_1) := IsS42.cell_1 hI1; have hf1_ := IsS42.froz_1 hI1; have hc2_ : W1.cell? ⟨g, 2, none⟩ = some (.int .i64 s0_2) := IsS42.cell_2 hI1; have hf2_ := IsS42.froz_2 hI1; have hc3_ : W1.cell? ⟨g, 3, none⟩ = some (.bool true) := IsS42.cell_3 hI1; have hf3_ := IsS42.froz_3 hI1; have hc4_ : W1.cell? ⟨g, 4, none⟩ = some (.int .i64 s0_4) := IsS42.cell_4 hI1; have hf4_ := IsS42.froz_4 hI1) | ((with_reducible refine gate_dst (N := 40) rfl ?_); refine goesL_ (some 40) rfl rfl Tryd.func15 (by kernel_rfl) rfl #[.int .i64 a1, .int .i64 0, .int .i64 256] rfl (by (try simp only [List.map_toArray, List.map_cons, List.map_nil]); first | done | rfl) ?_; (with_reducible refine (sat_Clamp.calls a1 0 256 n _ An).mono ?_); rintro e w' ⟨rfl, ⟨nd, rfl⟩⟩; refine ⟨_, rfl, ?_⟩; have hI2 := IsS42.drewN (IsS42.set_4 (IsS42.set_3 hI1 true) t) nd; have hB2 := pw_below_drewN (below_set (below_set hB1 (IsS42.ge hI1) (j := 3) (v := .bool true)) (IsS42.ge hI1) (j := 4) (v := .int .i64 t)) nd; have hK2 := keep_drewN (KeepBut.set_ (KeepBut.set_ hK1 3 (.bool true)) 4 (.int .i64 t)) nd; clear hI1 hB1 hK1; clear hc0_ hf0_ hc1_ hf1_ hc2_ hf2_ hc3_ hf3_ hc4_ hf4_; generalize World.drewN ((W1.setCell ⟨g, 3, none⟩ (.bool true)).setCell ⟨g, 4, none⟩ (.int .i64 t)) nd = W2 at hI2 hB2 hK2 ⊢; have hc0_ : W2.cell? ⟨g, 0, none⟩ = some (.int .i64 s0_0) := IsS42.cell_0 hI2; have hf0_ := IsS42.froz_0 hI2; have hc1_ : W2.cell? ⟨g, 1, none⟩ = some (.int .i64 s0_1) := IsS42.cell_1 hI2; have hf1_ := IsS42.froz_1 hI2; have hc2_ : W2.cell? ⟨g, 2, none⟩ = some (.int .i64 s0_2) := IsS42.cell_2 hI2; have hf2_ := IsS42.froz_2 hI2; have hc3_ : W2.cell? ⟨g, 3, none⟩ = some (.bool true) := IsS42.cell_3 hI2; have hf3_ := IsS42.froz_3 hI2; have hc4_ : W2.cell? ⟨g, 4, none⟩ = some (.int .i64 t) := IsS42.cell_4 hI2; have hf4_ := IsS42.froz_4 hI2; have hG2 := hG.below hB2; obtain ⟨q0, q1, q2, q3, q4, q5, q6, q7, q8, q9, q10, q11, q12, q13, q14⟩ := hG2))
  refine wp_loop_rounds 4 ?_
  rw [rounds_succ]
  go_wp2
  refine namedG_ ?_
  intro W3 hW3
  have h1 : LH w0 w W3 g W2.heap.size s0_0 s0_1 s0_2 true t 5 105 100 1000 0 := by rw [hW3]; exact ⟨IsS42.alloc (hI2) _, below_alloc (hB2) _, keep_alloc (hK2) _, blk_new _ _⟩
  clear hW3 hI2 hB2 hK2
  generalize W2.heap.size = b at h1 ⊢
  refine start_ (n := 22) (S := fun w' => LH w0 w w' g b s0_0 s0_1 s0_2 true t 5 105 100 1000 0) (ds := [21]) #[false, false, false, false, false, false, false, false, false, false, false, false, false, false, false, false, false, false, false, false, false, false] (by kernel_rfl) rfl rfl h1.drew (fun hHeld => ?_)
  clear h1
  generalize W3.drew = W3 at hHeld ⊢
  refine pure_ (i := 0) (N := some 52) (v := ?_) (a' := ?_) #[true, false, false, false, false, false, false, false, false, false, false, false, false, false, false, false, false, false, false, false, false, false] rfl rfl (by kernel_rfl) (fun _ _ _ h => h) (Or.inl ⟨by rfl, ?_⟩) ?_ ?_
  rotate_left
  ·intro w'
   go_simp
   with_reducible rfl
  rotate_left
  ·simp only [Act.put, List.setIfInBounds_toArray, List.set_cons_zero, List.set_cons_succ, i64_w, i32_w]
   rfl
  refine pure_ (i := 1) (N := some 53) (v := ?_) (a' := ?_) #[true, true, false, false, false, false, false, false, false, false, false, false, false, false, false, false, false, false, false, false, false, false] rfl rfl (by kernel_rfl) (fun _ _ _ h => h) (Or.inl ⟨by rfl, ?_⟩) ?_ ?_
  rotate_left
  ·intro w'
   go_simp
   with_reducible rfl
  rotate_left
  ·simp only [Act.put, List.setIfInBounds_toArray, List.set_cons_zero, List.set_cons_succ, i64_w, i32_w]
   rfl
  refine pure_ (i := 2) (N := some 54) (v := ?_) (a' := ?_) #[true, true, true, false, false, false, false, false, false, false, false, false, false, false, false, false, false, false, false, false, false, false] rfl rfl (by kernel_rfl) (fun _ _ _ h => h) (Or.inl ⟨by rfl, ?_⟩) ?_ ?_
  rotate_left
  ·intro w'
   go_simp
   with_reducible rfl
  rotate_left
  ·simp only [Act.put, List.setIfInBounds_toArray, List.set_cons_zero, List.set_cons_succ, i64_w, i32_w]
   rfl
  refine pure_ (i := 3) (N := some 55) (v := ?_) (a' := ?_) #[true, true, true, true, false, false, false, false, false, false, false, false, false, false, false, false, false, false, false, false, false, false] rfl rfl (by kernel_rfl) (fun _ _ _ h => h) (Or.inl ⟨by rfl, ?_⟩) ?_ ?_
  rotate_left
  ·intro w'
   go_simp
   with_reducible rfl
  rotate_left
  ·simp only [Act.put, List.setIfInBounds_toArray, List.set_cons_zero, List.set_cons_succ, i64_w, i32_w]
   rfl
  refine take_ (i := 4) (N := some 56) (v := ?_) (a' := ?_) #[true, true, true, true, true, false, false, false, false, false, false, false, false, false, false, false, false, false, false, false, false, false] rfl rfl (by kernel_rfl) (fun _ _ _ h => h) (Or.inl ⟨by rfl, ?_⟩) hHeld ?_ ?_
  rotate_left
  ·intro w' hw'
   have cb0_ : w'.cell? ⟨g, 0, none⟩ = some (.int .i64 s0_0) := IsS42.cell_0 hw'.st
   go_simp
   with_reducible rfl
  rotate_left
  ·simp only [Act.put, List.setIfInBounds_toArray, List.set_cons_zero, List.set_cons_succ, i64_w, i32_w]
   rfl
  refine pure_ (i := 5) (N := some 57) (v := ?_) (a' := ?_) #[true, true, true, true, true, true, false, false, false, false, false, false, false, false, false, false, false, false, false, false, false, false] rfl rfl (by kernel_rfl) (fun _ _ _ h => h) (Or.inl ⟨by rfl, ?_⟩) ?_ ?_
  rotate_left
  ·intro w'
   go_simp
   with_reducible rfl
  rotate_left
  ·simp only [Act.put, List.setIfInBounds_toArray, List.set_cons_zero, List.set_cons_succ, i64_w, i32_w]
   rfl
  refine take_ (i := 6) (N := some 58) (v := ?_) (a' := ?_) #[true, true, true, true, true, true, true, false, false, false, false, false, false, false, false, false, false, false, false, false, false, false] rfl rfl (by kernel_rfl) (fun _ _ _ h => h) (Or.inl ⟨by rfl, ?_⟩) hHeld ?_ ?_
  rotate_left
  ·intro w' hw'
   have cb0_ : w'.cell? ⟨b, 1, none⟩ = some (.int .i64 105) := (blk_cell hw'.row 1).trans rfl
   go_simp
   with_reducible rfl
  rotate_left
  ·simp only [Act.put, List.setIfInBounds_toArray, List.set_cons_zero, List.set_cons_succ, i64_w, i32_w]
   rfl
  refine pure_ (i := 7) (N := some 59) (v := ?_) (a' := ?_) #[true, true, true, true, true, true, true, true, false, false, false, false, false, false, false, false, false, false, false, false, false, false] rfl rfl (by kernel_rfl) (fun _ _ _ h => h) (Or.inl ⟨by rfl, ?_⟩) ?_ ?_
  rotate_left
  ·intro w'
   go_simp
   with_reducible rfl
  rotate_left
  ·simp only [Act.put, List.setIfInBounds_toArray, List.set_cons_zero, List.set_cons_succ, i64_w, i32_w]
   rfl
  refine take_ (i := 8) (N := some 60) (v := ?_) (a' := ?_) #[true, true, true, true, true, true, true, true, true, false, false, false, false, false, false, false, false, false, false, false, false, false] rfl rfl (by kernel_rfl) (fun _ _ _ h => h) (Or.inl ⟨by rfl, ?_⟩) hHeld ?_ ?_
  rotate_left
  ·intro w' hw'
   have cb0_ : w'.cell? ⟨b, 4, none⟩ = some (.int .i64 0) := (blk_cell hw'.row 4).trans rfl
   go_simp
   with_reducible rfl
  rotate_left
  ·simp only [Act.put, List.setIfInBounds_toArray, List.set_cons_zero, List.set_cons_succ, i64_w, i32_w]
   rfl
  refine pure_ (i := 9) (N := some 61) (v := ?_) (a' := ?_) #[true, true, true, true, true, true, true, true, true, true, false, false, false, false, false, false, false, false, false, false, false, false] rfl rfl (by kernel_rfl) (fun _ _ _ h => h) (Or.inl ⟨by rfl, ?_⟩) ?_ ?_
  rotate_left
  ·intro w'
   go_simp
   with_reducible rfl
  rotate_left
  ·simp only [Act.put, List.setIfInBounds_toArray, List.set_cons_zero, List.set_cons_succ, i64_w, i32_w]
   rfl
  refine pure_ (i := 10) (N := some 62) (v := ?_) (a' := ?_) #[true, true, true, true, true, true, true, true, true, true, true, false, false, false, false, false, false, false, false, false, false, false] rfl rfl (by kernel_rfl) (fun _ _ _ h => h) (Or.inl ⟨by rfl, ?_⟩) ?_ ?_
  rotate_left
  ·intro w'
   go_simp
   with_reducible rfl
  rotate_left
  ·simp only [Act.put, List.setIfInBounds_toArray, List.set_cons_zero, List.set_cons_succ, i64_w, i32_w]
   rfl
  refine pure_ (i := 11) (N := some 63) (v := ?_) (a' := ?_) #[true, true, true, true, true, true, true, true, true, true, true, true, false, false, false, false, false, false, false, false, false, false] rfl rfl (by kernel_rfl) (fun _ _ _ h => h) (Or.inl ⟨by rfl, ?_⟩) ?_ ?_
  rotate_left
  ·intro w'
   go_simp
   with_reducible rfl
  rotate_left
  ·simp only [Act.put, List.setIfInBounds_toArray, List.set_cons_zero, List.set_cons_succ, i64_w, i32_w]
   rfl
  refine pure_ (i := 12) (N := some 64) (v := ?_) (a' := ?_) #[true, true, true, true, true, true, true, true, true, true, true, true, true, false, false, false, false, false, false, false, false, false] rfl rfl (by kernel_rfl) (fun _ _ _ h => h) (Or.inl ⟨by rfl, ?_⟩) ?_ ?_
  rotate_left
  ·intro w'
   go_simp
   with_reducible rfl
  rotate_left
  ·simp only [Act.put, List.setIfInBounds_toArray, List.set_cons_zero, List.set_cons_succ, i64_w, i32_w]
   rfl
  refine take_ (i := 13) (N := some 65) (v := ?_) (a' := ?_) #[true, true, true, true, true, true, true, true, true, true, true, true, true, true, false, false, false, false, false, false, false, false] rfl rfl (by kernel_rfl) (fun _ _ _ h => h) (Or.inl ⟨by rfl, ?_⟩) hHeld ?_ ?_
  rotate_left
  ·intro w' hw'
   have cb0_ : w'.cell? ⟨b, 2, none⟩ = some (.int .i64 100) := (blk_cell hw'.row 2).trans rfl
   go_simp
   with_reducible rfl
  rotate_left
  ·simp only [Act.put, List.setIfInBounds_toArray, List.set_cons_zero, List.set_cons_succ, i64_w, i32_w]
   rfl
  refine pure_ (i := 14) (N := some 66) (v := ?_) (a' := ?_) #[true, true, true, true, true, true, true, true, true, true, true, true, true, true, true, false, false, false, false, false, false, false] rfl rfl (by kernel_rfl) (fun _ _ _ h => h) (Or.inl ⟨by rfl, ?_⟩) ?_ ?_
  rotate_left
  ·intro w'
   go_simp
   with_reducible rfl
  rotate_left
  ·simp only [Act.put, List.setIfInBounds_toArray, List.set_cons_zero, List.set_cons_succ, i64_w, i32_w]
   rfl
  refine pure_ (i := 16) (N := some 68) (v := ?_) (a' := ?_) #[true, true, true, true, true, true, true, true, true, true, true, true, true, true, true, false, true, false, false, false, false, false] rfl rfl (by kernel_rfl) (fun _ _ _ h => h) (Or.inl ⟨by rfl, ?_⟩) ?_ ?_
  rotate_left
  ·intro w'
   go_simp
   with_reducible rfl
  rotate_left
  ·simp only [Act.put, List.setIfInBounds_toArray, List.set_cons_zero, List.set_cons_succ, i64_w, i32_w]
   rfl
  refine take_ (i := 17) (N := some 69) (v := ?_) (a' := ?_) #[true, true, true, true, true, true, true, true, true, true, true, true, true, true, true, false, true, true, false, false, false, false] rfl rfl (by kernel_rfl) (fun _ _ _ h => h) (Or.inl ⟨by rfl, ?_⟩) hHeld ?_ ?_
  rotate_left
  ·intro w' hw'
   have cb0_ : w'.cell? ⟨b, 3, none⟩ = some (.int .i64 1000) := (blk_cell hw'.row 3).trans rfl
   go_simp
   with_reducible rfl
  rotate_left
  ·simp only [Act.put, List.setIfInBounds_toArray, List.set_cons_zero, List.set_cons_succ, i64_w, i32_w]
   rfl
  refine one_ (i := 15) (N := some 67) #[true, true, true, true, true, true, true, true, true, true, true, true, true, true, true, true, true, true, false, false, false, false] rfl rfl (by kernel_rfl) (by decide) (fun K hK => ?_)
  refine goes_ Tryd.func16 (by kernel_rfl) rfl #[.int .i64 s0_0, .int .i64 (wrap64 (105 - wrap64 0)), .int .i64 100, .int .i64 3] (by rfl) rfl rfl (by simp only [List.map_toArray, List.map_cons, List.map_nil]; rfl) ?_
  refine (muldiv_Do.calls s0_0 _ 100 3 q _ Aq).mono ?_
  rintro e w' ⟨rfl, hb⟩
  refine ⟨_, rfl, ?_⟩
  have hN_ := hHeld.below hb
  refine hK.out _ _ hN_ (fun hHeld => ?_)
  clear hK K hN_ hb
  refine norm_ (a' := ?_) ?_ ?_
  rotate_left
  ·show Act.put _ (some 67) _ = _
   simp only [Act.put, List.setIfInBounds_toArray, List.set_cons_zero, List.set_cons_succ, i64_w, i32_w]
   rfl
  refine pure_ (i := 18) (N := some 70) (v := ?_) (a' := ?_) #[true, true, true, true, true, true, true, true, true, true, true, true, true, true, true, true, true, true, true, false, false, false] rfl rfl (by kernel_rfl) (fun _ _ _ h => h) (Or.inl ⟨by rfl, ?_⟩) ?_ ?_
  rotate_left
  ·intro w'
   go_simp
   with_reducible rfl
  rotate_left
  ·simp only [Act.put, List.setIfInBounds_toArray, List.set_cons_zero, List.set_cons_succ, i64_w, i32_w]
   rfl
  refine pure_ (i := 19) (N := some 71) (v := ?_) (a' := ?_) #[true, true, true, true, true, true, true, true, true, true, true, true, true, true, true, true, true, true, true, true, false, false] rfl rfl (by kernel_rfl) (fun _ _ _ h => h) (Or.inl ⟨by rfl, ?_⟩) ?_ ?_
  rotate_left
  ·intro w'
   go_simp
   with_reducible rfl
  rotate_left
  ·simp only [Act.put, List.setIfInBounds_toArray, List.set_cons_zero, List.set_cons_succ, i64_w, i32_w]
   rfl
  refine pure_ (i := 20) (N := some 72) (v := ?_) (a' := ?_) #[true, true, true, true, true, true, true, true, true, true, true, true, true, true, true, true, true, true, true, true, true, false] rfl rfl (by kernel_rfl) (fun _ _ _ h => h) (Or.inl ⟨by rfl, ?_⟩) ?_ ?_
  rotate_left
  ·intro w'
   go_simp
   with_reducible rfl
  rotate_left
  ·simp only [Act.put, List.setIfInBounds_toArray, List.set_cons_zero, List.set_cons_succ, i64_w, i32_w]
   rfl
  refine last_ (i := 21) (N := none) #[true, true, true, true, true, true, true, true, true, true, true, true, true, true, true, true, true, true, true, true, true, true] rfl rfl (by kernel_rfl) (by decide) (fun K hK => ?_)
  have hs0_ : w'.cell? ⟨g, 0, none⟩ = some (.int .i64 s0_0) := IsS42.cell_0 hHeld.st
  have hf0_ := IsS42.froz_0 hHeld.st
  refine skip_ (w1 := ?_) (by rfl) rfl ?_ ?_
  rotate_left
  ·go_simp
   rfl
  refine hK.out _ _ ?_
  refine done_ (by kernel_rfl) ?_
  clear hK K
  clear hs0_
  clear hf0_
  have h2 : IsS42 w0 (w'.setCell ⟨g, 0, none⟩ (.int .i64 (wrap64 (q + 1000)))) g (wrap64 (q + 1000)) s0_1 s0_2 true t := IsS42.set_0 hHeld.st _
  have hb2 := below_set hHeld.bel (IsS42.ge hHeld.st) (j := 0) (v := .int .i64 (wrap64 (q + 1000)))
  have hk2 := KeepBut.set_ hHeld.keep 0 (.int .i64 (wrap64 (q + 1000)))
  clear hHeld
  generalize w'.setCell ⟨g, 0, none⟩ (.int .i64 (wrap64 (q + 1000))) = W5 at h2 hb2 hk2 ⊢
  try go_wp2
  have h3 : LK w0 w W5 g (wrap64 (q + 1000)) s0_1 s0_2 true t := ⟨h2, hb2, hk2⟩
  clear h2 hb2 hk2
  refine start_ (n := 17) (S := fun w' => LK w0 w w' g (wrap64 (q + 1000)) s0_1 s0_2 true t) (ds := [16]) #[false, false, false, false, false, false, false, false, false, false, false, false, false, false, false, false, false] (by kernel_rfl) rfl rfl h3.drew (fun hHeld => ?_)
  clear h3
  generalize W5.drew = W5 at hHeld ⊢
  refine pure_ (i := 0) (N := some 74) (v := ?_) (a' := ?_) #[true, false, false, false, false, false, false, false, false, false, false, false, false, false, false, false, false] rfl rfl (by kernel_rfl) (fun _ _ _ h => h) (Or.inl ⟨by rfl, ?_⟩) ?_ ?_
  rotate_left
  ·intro w'
   go_simp
   with_reducible rfl
  rotate_left
  ·simp only [Act.put, List.setIfInBounds_toArray, List.set_cons_zero, List.set_cons_succ, i64_w, i32_w]
   rfl
  refine pure_ (i := 1) (N := some 75) (v := ?_) (a' := ?_) #[true, true, false, false, false, false, false, false, false, false, false, false, false, false, false, false, false] rfl rfl (by kernel_rfl) (fun _ _ _ h => h) (Or.inl ⟨by rfl, ?_⟩) ?_ ?_
  rotate_left
  ·intro w'
   go_simp
   with_reducible rfl
  rotate_left
  ·simp only [Act.put, List.setIfInBounds_toArray, List.set_cons_zero, List.set_cons_succ, i64_w, i32_w]
   rfl
  refine pure_ (i := 2) (N := some 76) (v := ?_) (a' := ?_) #[true, true, true, false, false, false, false, false, false, false, false, false, false, false, false, false, false] rfl rfl (by kernel_rfl) (fun _ _ _ h => h) (Or.inl ⟨by rfl, ?_⟩) ?_ ?_
  rotate_left
  ·intro w'
   go_simp
   with_reducible rfl
  rotate_left
  ·simp only [Act.put, List.setIfInBounds_toArray, List.set_cons_zero, List.set_cons_succ, i64_w, i32_w]
   rfl
  refine pure_ (i := 3) (N := some 77) (v := ?_) (a' := ?_) #[true, true, true, true, false, false, false, false, false, false, false, false, false, false, false, false, false] rfl rfl (by kernel_rfl) (fun _ _ _ h => h) (Or.inl ⟨by rfl, ?_⟩) ?_ ?_
  rotate_left
  ·intro w'
   go_simp
   with_reducible rfl
  rotate_left
  ·simp only [Act.put, List.setIfInBounds_toArray, List.set_cons_zero, List.set_cons_succ, i64_w, i32_w]
   rfl
  refine take_ (i := 4) (N := some 78) (v := ?_) (a' := ?_) #[true, true, true, true, true, false, false, false, false, false, false, false, false, false, false, false, false] rfl rfl (by kernel_rfl) (fun _ _ _ h => h) (Or.inl ⟨by rfl, ?_⟩) hHeld ?_ ?_
  rotate_left
  ·intro w' hw'
   have cb0_ : w'.cell? ⟨g, 0, none⟩ = some (.int .i64 (wrap64 (q + 1000))) := IsS42.cell_0 hw'.st
   go_simp
   with_reducible rfl
  rotate_left
  ·simp only [Act.put, List.setIfInBounds_toArray, List.set_cons_zero, List.set_cons_succ, i64_w, i32_w]
   rfl
  refine pure_ (i := 5) (N := some 79) (v := ?_) (a' := ?_) #[true, true, true, true, true, true, false, false, false, false, false, false, false, false, false, false, false] rfl rfl (by kernel_rfl) (fun _ _ _ h => h) (Or.inl ⟨by rfl, ?_⟩) ?_ ?_
  rotate_left
  ·intro w'
   go_simp
   with_reducible rfl
  rotate_left
  ·simp only [Act.put, List.setIfInBounds_toArray, List.set_cons_zero, List.set_cons_succ, i64_w, i32_w]
   rfl
  refine pure_ (i := 6) (N := some 80) (v := ?_) (a' := ?_) #[true, true, true, true, true, true, true, false, false, false, false, false, false, false, false, false, false] rfl rfl (by kernel_rfl) (fun _ _ _ h => h) (Or.inl ⟨by rfl, ?_⟩) ?_ ?_
  rotate_left
  ·intro w'
   go_simp
   with_reducible rfl
  rotate_left
  ·simp only [Act.put, List.setIfInBounds_toArray, List.set_cons_zero, List.set_cons_succ, i64_w, i32_w]
   rfl
  refine pure_ (i := 7) (N := some 81) (v := ?_) (a' := ?_) #[true, true, true, true, true, true, true, true, false, false, false, false, false, false, false, false, false] rfl rfl (by kernel_rfl) (fun _ _ _ h => h) (Or.inl ⟨by rfl, ?_⟩) ?_ ?_
  rotate_left
  ·intro w'
   go_simp
   with_reducible rfl
  rotate_left
  ·simp only [Act.put, List.setIfInBounds_toArray, List.set_cons_zero, List.set_cons_succ, i64_w, i32_w]
   rfl
  refine take_ (i := 8) (N := some 82) (v := ?_) (a' := ?_) #[true, true, true, true, true, true, true, true, true, false, false, false, false, false, false, false, false] rfl rfl (by kernel_rfl) (fun _ _ _ h => h) (Or.inl ⟨by rfl, ?_⟩) hHeld ?_ ?_
  rotate_left
  ·intro w' hw'
   have cb0_ : w'.cell? ⟨g, 1, none⟩ = some (.int .i64 s0_1) := IsS42.cell_1 hw'.st
   go_simp
   with_reducible rfl
  rotate_left
  ·simp only [Act.put, List.setIfInBounds_toArray, List.set_cons_zero, List.set_cons_succ, i64_w, i32_w]
   rfl
  refine pure_ (i := 9) (N := some 83) (v := ?_) (a' := ?_) #[true, true, true, true, true, true, true, true, true, true, false, false, false, false, false, false, false] rfl rfl (by kernel_rfl) (fun _ _ _ h => h) (Or.inl ⟨by rfl, ?_⟩) ?_ ?_
  rotate_left
  ·intro w'
   go_simp
   with_reducible rfl
  rotate_left
  ·simp only [Act.put, List.setIfInBounds_toArray, List.set_cons_zero, List.set_cons_succ, i64_w, i32_w]
   rfl
  refine pure_ (i := 10) (N := some 84) (v := ?_) (a' := ?_) #[true, true, true, true, true, true, true, true, true, true, true, false, false, false, false, false, false] rfl rfl (by kernel_rfl) (fun _ _ _ h => h) (Or.inl ⟨by rfl, ?_⟩) ?_ ?_
  rotate_left
  ·intro w'
   go_simp
   with_reducible rfl
  rotate_left
  ·simp only [Act.put, List.setIfInBounds_toArray, List.set_cons_zero, List.set_cons_succ, i64_w, i32_w]
   rfl
  refine pure_ (i := 11) (N := some 85) (v := ?_) (a' := ?_) #[true, true, true, true, true, true, true, true, true, true, true, true, false, false, false, false, false] rfl rfl (by kernel_rfl) (fun _ _ _ h => h) (Or.inl ⟨by rfl, ?_⟩) ?_ ?_
  rotate_left
  ·intro w'
   go_simp
   with_reducible rfl
  rotate_left
  ·simp only [Act.put, List.setIfInBounds_toArray, List.set_cons_zero, List.set_cons_succ, i64_w, i32_w]
   rfl
  refine take_ (i := 12) (N := some 86) (v := ?_) (a' := ?_) #[true, true, true, true, true, true, true, true, true, true, true, true, true, false, false, false, false] rfl rfl (by kernel_rfl) (fun _ _ _ h => h) (Or.inl ⟨by rfl, ?_⟩) hHeld ?_ ?_
  rotate_left
  ·intro w' hw'
   have cb0_ : w'.cell? ⟨g, 2, none⟩ = some (.int .i64 s0_2) := IsS42.cell_2 hw'.st
   go_simp
   with_reducible rfl
  rotate_left
  ·simp only [Act.put, List.setIfInBounds_toArray, List.set_cons_zero, List.set_cons_succ, i64_w, i32_w]
   rfl
  refine one_ (i := 13) (N := some 87) #[true, true, true, true, true, true, true, true, true, true, true, true, true, true, false, false, false] rfl rfl (by kernel_rfl) (by decide) (fun K hK => ?_)
  refine goes_ Tryd.func15 (by kernel_rfl) rfl #[.int .i64 (wrap64 (q + 1000)), .int .i64 s0_1, .int .i64 s0_2] (by rfl) rfl rfl (by simp only [List.map_toArray, List.map_cons, List.map_nil]; rfl) ?_
  with_reducible refine (sat_Clamp.calls (wrap64 (q + 1000)) s0_1 s0_2 t3 _ A3).mono ?_
  rintro e w' ⟨rfl, ⟨nd, rfl⟩⟩
  refine ⟨_, rfl, ?_⟩
  have hN_ := hHeld.drewN nd
  refine hK.out _ _ hN_ (fun hHeld => ?_)
  clear hK K hN_
  generalize W5.drewN nd = W5_ at hHeld ⊢
  refine norm_ (a' := ?_) ?_ ?_
  rotate_left
  ·show Act.put _ (some 87) _ = _
   simp only [Act.put, List.setIfInBounds_toArray, List.set_cons_zero, List.set_cons_succ, i64_w, i32_w]
   rfl
  refine pure_ (i := 14) (N := some 88) (v := ?_) (a' := ?_) #[true, true, true, true, true, true, true, true, true, true, true, true, true, true, true, false, false] rfl rfl (by kernel_rfl) (fun _ _ _ h => h) (Or.inl ⟨by rfl, ?_⟩) ?_ ?_
  rotate_left
  ·intro w'
   go_simp
   with_reducible rfl
  rotate_left
  ·simp only [Act.put, List.setIfInBounds_toArray, List.set_cons_zero, List.set_cons_succ, i64_w, i32_w]
   rfl
  refine pure_ (i := 15) (N := some 89) (v := ?_) (a' := ?_) #[true, true, true, true, true, true, true, true, true, true, true, true, true, true, true, true, false] rfl rfl (by kernel_rfl) (fun _ _ _ h => h) (Or.inl ⟨by rfl, ?_⟩) ?_ ?_
  rotate_left
  ·intro w'
   go_simp
   with_reducible rfl
  rotate_left
  ·simp only [Act.put, List.setIfInBounds_toArray, List.set_cons_zero, List.set_cons_succ, i64_w, i32_w]
   rfl
  refine last_ (i := 16) (N := none) #[true, true, true, true, true, true, true, true, true, true, true, true, true, true, true, true, true] rfl rfl (by kernel_rfl) (by decide) (fun K hK => ?_)
  have hs0_ : W5_.cell? ⟨g, 0, none⟩ = some (.int .i64 (wrap64 (q + 1000))) := IsS42.cell_0 hHeld.st
  have hf0_ := IsS42.froz_0 hHeld.st
  refine skip_ (w1 := ?_) (by rfl) rfl ?_ ?_
  rotate_left
  ·go_simp
   rfl
  refine hK.out _ _ ?_
  refine done_ (by kernel_rfl) ?_
  clear hK K
  clear hs0_
  clear hf0_
  have h4 := IsS42.set_0 hHeld.st t3
  have hb4 := below_set hHeld.bel (IsS42.ge hHeld.st) (j := 0) (v := .int .i64 t3)
  have hk4 := KeepBut.set_ hHeld.keep 0 (.int .i64 t3)
  clear hHeld
  generalize W5_.setCell ⟨g, 0, none⟩ (.int .i64 t3) = W6 at h4 hb4 hk4 ⊢
  have hc0_ := IsS42.cell_0 h4
  go_wp2
  go_ret
  exact ⟨rfl, h4, hb4, hk4⟩
set_option maxHeartbeats 8000000 in
set_option maxRecDepth 100000 in
theorem lossy_upd1 (g : Nat) (s0_0 s0_1 s0_2 : Int) (s0_3 : Bool) (s0_4 a1 a2 n t : Int) (w0 w : World) (hI : IsS42 w0 w g s0_0 s0_1 s0_2 s0_3 s0_4) (hB : Below w0.heap.size w0 w) (hG : GL w0) (q : Int) (Aq : muldiv_Do.f s0_0 (wrap64 (1 - wrap64 0)) 1 1 = some q) (t3 : Int) (A3 : sat_Clamp.f (wrap64 q) s0_1 s0_2 = some t3) (At : sat_Clamp.f a2 0 1125899906842624 = some t) (An : sat_Clamp.f a1 0 256 = some n) (cn : ¬ n ≤ 5) (cn2 : n ≤ 26) (hn : n ≤ 256) (c : s0_3 = false ∨ s0_3 = true ∧ decide (wrap64 (t - s0_4) < 200000) = false) :
  Calls Tryd.prog 9 #[.pointer (some ⟨g, 0, none⟩), .int .i64 a1, .int .i64 a2] w fun e w' => e = .returned (.int .i64 t3) ∧ IsS42 w0 w' g t3 s0_1 s0_2 true t ∧ Below w0.heap.size w0 w' ∧ KeepBut w w' g none := by
 have hpn : ∀ (a_ : Addr) (W_ : World), (Go.binOp .eql 24 (.pointer (some a_)) (.pointer none)).run Tryd.prog W_ = .ok (.bool false) W_ := fun _ _ => by kernel_rfl
 have hix0 : ∀ W_ : World, (Instr.index 46 (.agg #[.int .i64 5, .int .i64 105, .int .i64 100, .int .i64 1000, .int .i64 0, .int .i64 26, .int .i64 1, .int .i64 1, .int .i64 0, .int .i64 0, .int .i64 256, .int .i64 512, .int .i64 512, .int .i64 0, .int .i64 1]) (.int .i64 0)).run Tryd.prog W_ = .ok (.agg #[.int .i64 5, .int .i64 105, .int .i64 100, .int .i64 1000, .int .i64 0]) W_ := fun _ => by kernel_rfl
 have hix1 : ∀ W_ : World, (Instr.index 46 (.agg #[.int .i64 5, .int .i64 105, .int .i64 100, .int .i64 1000, .int .i64 0, .int .i64 26, .int .i64 1, .int .i64 1, .int .i64 0, .int .i64 0, .int .i64 256, .int .i64 512, .int .i64 512, .int .i64 0, .int .i64 1]) (.int .i64 1)).run Tryd.prog W_ = .ok (.agg #[.int .i64 26, .int .i64 1, .int .i64 1, .int .i64 0, .int .i64 0]) W_ := fun _ => by kernel_rfl
 have hix2 : ∀ W_ : World, (Instr.index 46 (.agg #[.int .i64 5, .int .i64 105, .int .i64 100, .int .i64 1000, .int .i64 0, .int .i64 26, .int .i64 1, .int .i64 1, .int .i64 0, .int .i64 0, .int .i64 256, .int .i64 512, .int .i64 512, .int .i64 0, .int .i64 1]) (.int .i64 2)).run Tryd.prog W_ = .ok (.agg #[.int .i64 256, .int .i64 512, .int .i64 512, .int .i64 0, .int .i64 1]) W_ := fun _ => by kernel_rfl
 have cn0_ : decide (5 < n) = true := decide_eq_true (by omega)
 have cn1_ : decide (26 < n) = false := decide_eq_false (by omega)
 rcases c with c | ⟨c, hc⟩
 ·subst c
  go_enter Tryd.func9, Tryd.ntmps9
  go_wp2_with (first | ((with_reducible refine gate_dst (N := 14) rfl ?_); refine goesL_ (some 14) rfl rfl Tryd.func15 (by kernel_rfl) rfl #[.int .i64 a2, .int .i64 0, .int .i64 1125899906842624] rfl (by (try simp only [List.map_toArray, List.map_cons, List.map_nil]); first | done | rfl) ?_; (with_reducible refine (sat_Clamp.calls a2 0 1125899906842624 t _ At).mono ?_); rintro e w' ⟨rfl, ⟨nd, rfl⟩⟩; refine ⟨_, rfl, ?_⟩; have hI1 := IsS42.drewN hI nd; have hB1 := pw_below_drewN hB nd; have hK1 := keep_drewN (KeepBut.refl w g none) nd; generalize World.drewN w nd = W1 at hI1 hB1 hK1 ⊢; have hc0_ : W1.cell? ⟨g, 0, none⟩ = some (.int .i64 s0_0) := IsS42.cell_0 hI1; have hf0_ := IsS42.froz_0 hI1; have hc1_ : W1.cell? ⟨g, 1, none⟩ = some (.int .i64 s0_1) := IsS42.cell_1 hI1; have hf1_ := IsS42.froz_1 hI1; have hc2_ : W1.cell? ⟨g, 2, none⟩ = some (.int .i64 s0_2) := IsS42.cell_2 hI1; have hf2_ := IsS42.froz_2 hI1; have hc3_ : W1.cell? ⟨g, 3, none⟩ = some (.bool false) := IsS42.cell_3 hI1; have hf3_ := IsS42.froz_3 hI1; have hc4_ : W1.cell? ⟨g, 4, none⟩ = some (.int .i64 s0_4) := IsS42.cell_4 hI1; have hf4_ := IsS42.froz_4 hI1) | ((with_reducible refine gate_dst (N := 40) rfl ?_); refine goesL_ (some 40) rfl rfl Tryd.func15 (by kernel_rfl) rfl #[.int .i64 a1, .int .i64 0, .int .i64 256] rfl (by (try simp only [List.map_toArray, List.map_cons, List.map_nil]); first | done | rfl) ?_; (with_reducible refine (sat_Clamp.calls a1 0 256 n _ An).mono ?_); rintro e w' ⟨rfl, ⟨nd, rfl⟩⟩; refine ⟨_, rfl, ?_⟩; have hI2 := IsS42.drewN (IsS42.set_4 (IsS42.set_3 hI1 true) t) nd; have hB2 := pw_below_drewN (below_set (below_set hB1 (IsS42.ge hI1) (j := 3) (v := .bool true)) (IsS42.ge hI1) (j := 4) (v := .int .i64 t)) nd; have hK2 := keep_drewN (KeepBut.set_ (KeepBut.set_ hK1 3 (.bool true)) 4 (.int .i64 t)) nd; clear hI1 hB1 hK1; clear hc0_ hf0_ hc1_ hf1_ hc2_ hf2_ hc3_ hf3_ hc4_ hf4_; generalize World.drewN ((W1.setCell ⟨g, 3, none⟩ (.bool true)).setCell ⟨g, 4, none⟩ (.int .i64 t)) nd = W2 at hI2 hB2 hK2 ⊢; have hc0_ : W2.cell? ⟨g, 0, none⟩ = some (.int .i64 s0_0) := IsS42.cell_0 hI2; have hf0_ := IsS42.froz_0 hI2; have hc1_ : W2.cell? ⟨g, 1, none⟩ = some (.int .i64 s0_1) := IsS42.cell_1 hI2; have hf1_ := IsS42.froz_1 hI2; have hc2_ : W2.cell? ⟨g, 2, none⟩ = some (.int .i64 s0_2) := IsS42.cell_2 hI2; have hf2_ := IsS42.froz_2 hI2; have hc3_ : W2.cell? ⟨g, 3, none⟩ = some (.bool true) := IsS42.cell_3 hI2; have hf3_ := IsS42.froz_3 hI2; have hc4_ : W2.cell? ⟨g, 4, none⟩ = some (.int .i64 t) := IsS42.cell_4 hI2; have hf4_ := IsS42.froz_4 hI2; have hG2 := hG.below hB2; obtain ⟨q0, q1, q2, q3, q4, q5, q6, q7, q8, q9, q10, q11, q12, q13, q14⟩ := hG2))
  refine wp_loop_rounds 4 ?_
  rw [rounds_succ]
  go_wp2
  rw [rounds_succ]
  go_wp2
  refine namedG_ ?_
  intro W3 hW3
  have h1 : LH w0 w W3 g (W2.alloc (.cells #[.int .i64 5, .int .i64 105, .int .i64 100, .int .i64 1000, .int .i64 0] 45)).heap.size s0_0 s0_1 s0_2 true t 26 1 1 0 0 := by rw [hW3]; exact ⟨IsS42.alloc (IsS42.alloc (hI2) _) _, below_alloc (below_alloc (hB2) _) _, keep_alloc (keep_alloc (hK2) _) _, blk_new _ _⟩
  (try simp only [sizeG_] at h1 ⊢)
  clear hW3 hI2 hB2 hK2
  generalize W2.heap.size + 1 = b at h1 ⊢
  refine start_ (n := 22) (S := fun w' => LH w0 w w' g b s0_0 s0_1 s0_2 true t 26 1 1 0 0) (ds := [21]) #[false, false, false, false, false, false, false, false, false, false, false, false, false, false, false, false, false, false, false, false, false, false] (by kernel_rfl) rfl rfl h1.drew (fun hHeld => ?_)
  clear h1
  generalize W3.drew = W3 at hHeld ⊢
  refine pure_ (i := 0) (N := some 52) (v := ?_) (a' := ?_) #[true, false, false, false, false, false, false, false, false, false, false, false, false, false, false, false, false, false, false, false, false, false] rfl rfl (by kernel_rfl) (fun _ _ _ h => h) (Or.inl ⟨by rfl, ?_⟩) ?_ ?_
  rotate_left
  ·intro w'
   go_simp
   with_reducible rfl
  rotate_left
  ·simp only [Act.put, List.setIfInBounds_toArray, List.set_cons_zero, List.set_cons_succ, i64_w, i32_w]
   rfl
  refine pure_ (i := 1) (N := some 53) (v := ?_) (a' := ?_) #[true, true, false, false, false, false, false, false, false, false, false, false, false, false, false, false, false, false, false, false, false, false] rfl rfl (by kernel_rfl) (fun _ _ _ h => h) (Or.inl ⟨by rfl, ?_⟩) ?_ ?_
  rotate_left
  ·intro w'
   go_simp
   with_reducible rfl
  rotate_left
  ·simp only [Act.put, List.setIfInBounds_toArray, List.set_cons_zero, List.set_cons_succ, i64_w, i32_w]
   rfl
  refine pure_ (i := 2) (N := some 54) (v := ?_) (a' := ?_) #[true, true, true, false, false, false, false, false, false, false, false, false, false, false, false, false, false, false, false, false, false, false] rfl rfl (by kernel_rfl) (fun _ _ _ h => h) (Or.inl ⟨by rfl, ?_⟩) ?_ ?_
  rotate_left
  ·intro w'
   go_simp
   with_reducible rfl
  rotate_left
  ·simp only [Act.put, List.setIfInBounds_toArray, List.set_cons_zero, List.set_cons_succ, i64_w, i32_w]
   rfl
  refine pure_ (i := 3) (N := some 55) (v := ?_) (a' := ?_) #[true, true, true, true, false, false, false, false, false, false, false, false, false, false, false, false, false, false, false, false, false, false] rfl rfl (by kernel_rfl) (fun _ _ _ h => h) (Or.inl ⟨by rfl, ?_⟩) ?_ ?_
  rotate_left
  ·intro w'
   go_simp
   with_reducible rfl
  rotate_left
  ·simp only [Act.put, List.setIfInBounds_toArray, List.set_cons_zero, List.set_cons_succ, i64_w, i32_w]
   rfl
  refine take_ (i := 4) (N := some 56) (v := ?_) (a' := ?_) #[true, true, true, true, true, false, false, false, false, false, false, false, false, false, false, false, false, false, false, false, false, false] rfl rfl (by kernel_rfl) (fun _ _ _ h => h) (Or.inl ⟨by rfl, ?_⟩) hHeld ?_ ?_
  rotate_left
  ·intro w' hw'
   have cb0_ : w'.cell? ⟨g, 0, none⟩ = some (.int .i64 s0_0) := IsS42.cell_0 hw'.st
   go_simp
   with_reducible rfl
  rotate_left
  ·simp only [Act.put, List.setIfInBounds_toArray, List.set_cons_zero, List.set_cons_succ, i64_w, i32_w]
   rfl
  refine pure_ (i := 5) (N := some 57) (v := ?_) (a' := ?_) #[true, true, true, true, true, true, false, false, false, false, false, false, false, false, false, false, false, false, false, false, false, false] rfl rfl (by kernel_rfl) (fun _ _ _ h => h) (Or.inl ⟨by rfl, ?_⟩) ?_ ?_
  rotate_left
  ·intro w'
   go_simp
   with_reducible rfl
  rotate_left
  ·simp only [Act.put, List.setIfInBounds_toArray, List.set_cons_zero, List.set_cons_succ, i64_w, i32_w]
   rfl
  refine take_ (i := 6) (N := some 58) (v := ?_) (a' := ?_) #[true, true, true, true, true, true, true, false, false, false, false, false, false, false, false, false, false, false, false, false, false, false] rfl rfl (by kernel_rfl) (fun _ _ _ h => h) (Or.inl ⟨by rfl, ?_⟩) hHeld ?_ ?_
  rotate_left
  ·intro w' hw'
   have cb0_ : w'.cell? ⟨b, 1, none⟩ = some (.int .i64 1) := (blk_cell hw'.row 1).trans rfl
   go_simp
   with_reducible rfl
  rotate_left
  ·simp only [Act.put, List.setIfInBounds_toArray, List.set_cons_zero, List.set_cons_succ, i64_w, i32_w]
   rfl
  refine pure_ (i := 7) (N := some 59) (v := ?_) (a' := ?_) #[true, true, true, true, true, true, true, true, false, false, false, false, false, false, false, false, false, false, false, false, false, false] rfl rfl (by kernel_rfl) (fun _ _ _ h => h) (Or.inl ⟨by rfl, ?_⟩) ?_ ?_
  rotate_left
  ·intro w'
   go_simp
   with_reducible rfl
  rotate_left
  ·simp only [Act.put, List.setIfInBounds_toArray, List.set_cons_zero, List.set_cons_succ, i64_w, i32_w]
   rfl
  refine take_ (i := 8) (N := some 60) (v := ?_) (a' := ?_) #[true, true, true, true, true, true, true, true, true, false, false, false, false, false, false, false, false, false, false, false, false, false] rfl rfl (by kernel_rfl) (fun _ _ _ h => h) (Or.inl ⟨by rfl, ?_⟩) hHeld ?_ ?_
  rotate_left
  ·intro w' hw'
   have cb0_ : w'.cell? ⟨b, 4, none⟩ = some (.int .i64 0) := (blk_cell hw'.row 4).trans rfl
   go_simp
   with_reducible rfl
  rotate_left
  ·simp only [Act.put, List.setIfInBounds_toArray, List.set_cons_zero, List.set_cons_succ, i64_w, i32_w]
   rfl
  refine pure_ (i := 9) (N := some 61) (v := ?_) (a' := ?_) #[true, true, true, true, true, true, true, true, true, true, false, false, false, false, false, false, false, false, false, false, false, false] rfl rfl (by kernel_rfl) (fun _ _ _ h => h) (Or.inl ⟨by rfl, ?_⟩) ?_ ?_
  rotate_left
  ·intro w'
   go_simp
   with_reducible rfl
  rotate_left
  ·simp only [Act.put, List.setIfInBounds_toArray, List.set_cons_zero, List.set_cons_succ, i64_w, i32_w]
   rfl
  refine pure_ (i := 10) (N := some 62) (v := ?_) (a' := ?_) #[true, true, true, true, true, true, true, true, true, true, true, false, false, false, false, false, false, false, false, false, false, false] rfl rfl (by kernel_rfl) (fun _ _ _ h => h) (Or.inl ⟨by rfl, ?_⟩) ?_ ?_
  rotate_left
  ·intro w'
   go_simp
   with_reducible rfl
  rotate_left
  ·simp only [Act.put, List.setIfInBounds_toArray, List.set_cons_zero, List.set_cons_succ, i64_w, i32_w]
   rfl
  refine pure_ (i := 11) (N := some 63) (v := ?_) (a' := ?_) #[true, true, true, true, true, true, true, true, true, true, true, true, false, false, false, false, false, false, false, false, false, false] rfl rfl (by kernel_rfl) (fun _ _ _ h => h) (Or.inl ⟨by rfl, ?_⟩) ?_ ?_
  rotate_left
  ·intro w'
   go_simp
   with_reducible rfl
  rotate_left
  ·simp only [Act.put, List.setIfInBounds_toArray, List.set_cons_zero, List.set_cons_succ, i64_w, i32_w]
   rfl
  refine pure_ (i := 12) (N := some 64) (v := ?_) (a' := ?_) #[true, true, true, true, true, true, true, true, true, true, true, true, true, false, false, false, false, false, false, false, false, false] rfl rfl (by kernel_rfl) (fun _ _ _ h => h) (Or.inl ⟨by rfl, ?_⟩) ?_ ?_
  rotate_left
  ·intro w'
   go_simp
   with_reducible rfl
  rotate_left
  ·simp only [Act.put, List.setIfInBounds_toArray, List.set_cons_zero, List.set_cons_succ, i64_w, i32_w]
   rfl
  refine take_ (i := 13) (N := some 65) (v := ?_) (a' := ?_) #[true, true, true, true, true, true, true, true, true, true, true, true, true, true, false, false, false, false, false, false, false, false] rfl rfl (by kernel_rfl) (fun _ _ _ h => h) (Or.inl ⟨by rfl, ?_⟩) hHeld ?_ ?_
  rotate_left
  ·intro w' hw'
   have cb0_ : w'.cell? ⟨b, 2, none⟩ = some (.int .i64 1) := (blk_cell hw'.row 2).trans rfl
   go_simp
   with_reducible rfl
  rotate_left
  ·simp only [Act.put, List.setIfInBounds_toArray, List.set_cons_zero, List.set_cons_succ, i64_w, i32_w]
   rfl
  refine pure_ (i := 14) (N := some 66) (v := ?_) (a' := ?_) #[true, true, true, true, true, true, true, true, true, true, true, true, true, true, true, false, false, false, false, false, false, false] rfl rfl (by kernel_rfl) (fun _ _ _ h => h) (Or.inl ⟨by rfl, ?_⟩) ?_ ?_
  rotate_left
  ·intro w'
   go_simp
   with_reducible rfl
  rotate_left
  ·simp only [Act.put, List.setIfInBounds_toArray, List.set_cons_zero, List.set_cons_succ, i64_w, i32_w]
   rfl
  refine pure_ (i := 16) (N := some 68) (v := ?_) (a' := ?_) #[true, true, true, true, true, true, true, true, true, true, true, true, true, true, true, false, true, false, false, false, false, false] rfl rfl (by kernel_rfl) (fun _ _ _ h => h) (Or.inl ⟨by rfl, ?_⟩) ?_ ?_
  rotate_left
  ·intro w'
   go_simp
   with_reducible rfl
  rotate_left
  ·simp only [Act.put, List.setIfInBounds_toArray, List.set_cons_zero, List.set_cons_succ, i64_w, i32_w]
   rfl
  refine take_ (i := 17) (N := some 69) (v := ?_) (a' := ?_) #[true, true, true, true, true, true, true, true, true, true, true, true, true, true, true, false, true, true, false, false, false, false] rfl rfl (by kernel_rfl) (fun _ _ _ h => h) (Or.inl ⟨by rfl, ?_⟩) hHeld ?_ ?_
  rotate_left
  ·intro w' hw'
   have cb0_ : w'.cell? ⟨b, 3, none⟩ = some (.int .i64 0) := (blk_cell hw'.row 3).trans rfl
   go_simp
   with_reducible rfl
  rotate_left
  ·simp only [Act.put, List.setIfInBounds_toArray, List.set_cons_zero, List.set_cons_succ, i64_w, i32_w]
   rfl
  refine one_ (i := 15) (N := some 67) #[true, true, true, true, true, true, true, true, true, true, true, true, true, true, true, true, true, true, false, false, false, false] rfl rfl (by kernel_rfl) (by decide) (fun K hK => ?_)
  refine goes_ Tryd.func16 (by kernel_rfl) rfl #[.int .i64 s0_0, .int .i64 (wrap64 (1 - wrap64 0)), .int .i64 1, .int .i64 1] (by rfl) rfl rfl (by simp only [List.map_toArray, List.map_cons, List.map_nil]; rfl) ?_
  refine (muldiv_Do.calls s0_0 _ 1 1 q _ Aq).mono ?_
  rintro e w' ⟨rfl, hb⟩
  refine ⟨_, rfl, ?_⟩
  have hN_ := hHeld.below hb
  refine hK.out _ _ hN_ (fun hHeld => ?_)
  clear hK K hN_ hb
  refine norm_ (a' := ?_) ?_ ?_
  rotate_left
  ·show Act.put _ (some 67) _ = _
   simp only [Act.put, List.setIfInBounds_toArray, List.set_cons_zero, List.set_cons_succ, i64_w, i32_w]
   rfl
  refine pure_ (i := 18) (N := some 70) (v := ?_) (a' := ?_) #[true, true, true, true, true, true, true, true, true, true, true, true, true, true, true, true, true, true, true, false, false, false] rfl rfl (by kernel_rfl) (fun _ _ _ h => h) (Or.inl ⟨by rfl, ?_⟩) ?_ ?_
  rotate_left
  ·intro w'
   go_simp
   with_reducible rfl
  rotate_left
  ·simp only [Act.put, List.setIfInBounds_toArray, List.set_cons_zero, List.set_cons_succ, i64_w, i32_w]
   rfl
  refine pure_ (i := 19) (N := some 71) (v := ?_) (a' := ?_) #[true, true, true, true, true, true, true, true, true, true, true, true, true, true, true, true, true, true, true, true, false, false] rfl rfl (by kernel_rfl) (fun _ _ _ h => h) (Or.inl ⟨by rfl, ?_⟩) ?_ ?_
  rotate_left
  ·intro w'
   go_simp
   with_reducible rfl
  rotate_left
  ·simp only [Act.put, List.setIfInBounds_toArray, List.set_cons_zero, List.set_cons_succ, i64_w, i32_w]
   rfl
  refine pure_ (i := 20) (N := some 72) (v := ?_) (a' := ?_) #[true, true, true, true, true, true, true, true, true, true, true, true, true, true, true, true, true, true, true, true, true, false] rfl rfl (by kernel_rfl) (fun _ _ _ h => h) (Or.inl ⟨by rfl, ?_⟩) ?_ ?_
  rotate_left
  ·intro w'
   go_simp
   with_reducible rfl
  rotate_left
  ·simp only [Act.put, List.setIfInBounds_toArray, List.set_cons_zero, List.set_cons_succ, i64_w, i32_w]
   rfl
  refine last_ (i := 21) (N := none) #[true, true, true, true, true, true, true, true, true, true, true, true, true, true, true, true, true, true, true, true, true, true] rfl rfl (by kernel_rfl) (by decide) (fun K hK => ?_)
  have hs0_ : w'.cell? ⟨g, 0, none⟩ = some (.int .i64 s0_0) := IsS42.cell_0 hHeld.st
  have hf0_ := IsS42.froz_0 hHeld.st
  refine skip_ (w1 := ?_) (by rfl) rfl ?_ ?_
  rotate_left
  ·go_simp
   rfl
  refine hK.out _ _ ?_
  refine done_ (by kernel_rfl) ?_
  clear hK K
  clear hs0_
  clear hf0_
  have h2 : IsS42 w0 (w'.setCell ⟨g, 0, none⟩ (.int .i64 (wrap64 q))) g (wrap64 q) s0_1 s0_2 true t := IsS42.set_0 hHeld.st _
  have hb2 := below_set hHeld.bel (IsS42.ge hHeld.st) (j := 0) (v := .int .i64 (wrap64 q))
  have hk2 := KeepBut.set_ hHeld.keep 0 (.int .i64 (wrap64 q))
  clear hHeld
  generalize w'.setCell ⟨g, 0, none⟩ (.int .i64 (wrap64 q)) = W5 at h2 hb2 hk2 ⊢
  try go_wp2
  have h3 : LK w0 w W5 g (wrap64 q) s0_1 s0_2 true t := ⟨h2, hb2, hk2⟩
  clear h2 hb2 hk2
  refine start_ (n := 17) (S := fun w' => LK w0 w w' g (wrap64 q) s0_1 s0_2 true t) (ds := [16]) #[false, false, false, false, false, false, false, false, false, false, false, false, false, false, false, false, false] (by kernel_rfl) rfl rfl h3.drew (fun hHeld => ?_)
  clear h3
  generalize W5.drew = W5 at hHeld ⊢
  refine pure_ (i := 0) (N := some 74) (v := ?_) (a' := ?_) #[true, false, false, false, false, false, false, false, false, false, false, false, false, false, false, false, false] rfl rfl (by kernel_rfl) (fun _ _ _ h => h) (Or.inl ⟨by rfl, ?_⟩) ?_ ?_
  rotate_left
  ·intro w'
   go_simp
   with_reducible rfl
  rotate_left
  ·simp only [Act.put, List.setIfInBounds_toArray, List.set_cons_zero, List.set_cons_succ, i64_w, i32_w]
   rfl
  refine pure_ (i := 1) (N := some 75) (v := ?_) (a' := ?_) #[true, true, false, false, false, false, false, false, false, false, false, false, false, false, false, false, false] rfl rfl (by kernel_rfl) (fun _ _ _ h => h) (Or.inl ⟨by rfl, ?_⟩) ?_ ?_
  rotate_left
  ·intro w'
   go_simp
   with_reducible rfl
  rotate_left
  ·simp only [Act.put, List.setIfInBounds_toArray, List.set_cons_zero, List.set_cons_succ, i64_w, i32_w]
   rfl
  refine pure_ (i := 2) (N := some 76) (v := ?_) (a' := ?_) #[true, true, true, false, false, false, false, false, false, false, false, false, false, false, false, false, false] rfl rfl (by kernel_rfl) (fun _ _ _ h => h) (Or.inl ⟨by rfl, ?_⟩) ?_ ?_
  rotate_left
  ·intro w'
   go_simp
   with_reducible rfl
  rotate_left
  ·simp only [Act.put, List.setIfInBounds_toArray, List.set_cons_zero, List.set_cons_succ, i64_w, i32_w]
   rfl
  refine pure_ (i := 3) (N := some 77) (v := ?_) (a' := ?_) #[true, true, true, true, false, false, false, false, false, false, false, false, false, false, false, false, false] rfl rfl (by kernel_rfl) (fun _ _ _ h => h) (Or.inl ⟨by rfl, ?_⟩) ?_ ?_
  rotate_left
  ·intro w'
   go_simp
   with_reducible rfl
  rotate_left
  ·simp only [Act.put, List.setIfInBounds_toArray, List.set_cons_zero, List.set_cons_succ, i64_w, i32_w]
   rfl
  refine take_ (i := 4) (N := some 78) (v := ?_) (a' := ?_) #[true, true, true, true, true, false, false, false, false, false, false, false, false, false, false, false, false] rfl rfl (by kernel_rfl) (fun _ _ _ h => h) (Or.inl ⟨by rfl, ?_⟩) hHeld ?_ ?_
  rotate_left
  ·intro w' hw'
   have cb0_ : w'.cell? ⟨g, 0, none⟩ = some (.int .i64 (wrap64 q)) := IsS42.cell_0 hw'.st
   go_simp
   with_reducible rfl
  rotate_left
  ·simp only [Act.put, List.setIfInBounds_toArray, List.set_cons_zero, List.set_cons_succ, i64_w, i32_w]
   rfl
  refine pure_ (i := 5) (N := some 79) (v := ?_) (a' := ?_) #[true, true, true, true, true, true, false, false, false, false, false, false, false, false, false, false, false] rfl rfl (by kernel_rfl) (fun _ _ _ h => h) (Or.inl ⟨by rfl, ?_⟩) ?_ ?_
  rotate_left
  ·intro w'
   go_simp
   with_reducible rfl
  rotate_left
  ·simp only [Act.put, List.setIfInBounds_toArray, List.set_cons_zero, List.set_cons_succ, i64_w, i32_w]
   rfl
  refine pure_ (i := 6) (N := some 80) (v := ?_) (a' := ?_) #[true, true, true, true, true, true, true, false, false, false, false, false, false, false, false, false, false] rfl rfl (by kernel_rfl) (fun _ _ _ h => h) (Or.inl ⟨by rfl, ?_⟩) ?_ ?_
  rotate_left
  ·intro w'
   go_simp
   with_reducible rfl
  rotate_left
  ·simp only [Act.put, List.setIfInBounds_toArray, List.set_cons_zero, List.set_cons_succ, i64_w, i32_w]
   rfl
  refine pure_ (i := 7) (N := some 81) (v := ?_) (a' := ?_) #[true, true, true, true, true, true, true, true, false, false, false, false, false, false, false, false, false] rfl rfl (by kernel_rfl) (fun _ _ _ h => h) (Or.inl ⟨by rfl, ?_⟩) ?_ ?_
  rotate_left
  ·intro w'
   go_simp
   with_reducible rfl
  rotate_left
  ·simp only [Act.put, List.setIfInBounds_toArray, List.set_cons_zero, List.set_cons_succ, i64_w, i32_w]
   rfl
  refine take_ (i := 8) (N := some 82) (v := ?_) (a' := ?_) #[true, true, true, true, true, true, true, true, true, false, false, false, false, false, false, false, false] rfl rfl (by kernel_rfl) (fun _ _ _ h => h) (Or.inl ⟨by rfl, ?_⟩) hHeld ?_ ?_
  rotate_left
  ·intro w' hw'
   have cb0_ : w'.cell? ⟨g, 1, none⟩ = some (.int .i64 s0_1) := IsS42.cell_1 hw'.st
   go_simp
   with_reducible rfl
  rotate_left
  ·simp only [Act.put, List.setIfInBounds_toArray, List.set_cons_zero, List.set_cons_succ, i64_w, i32_w]
   rfl
  refine pure_ (i := 9) (N := some 83) (v := ?_) (a' := ?_) #[true, true, true, true, true, true, true, true, true, true, false, false, false, false, false, false, false] rfl rfl (by kernel_rfl) (fun _ _ _ h => h) (Or.inl ⟨by rfl, ?_⟩) ?_ ?_
  rotate_left
  ·intro w'
   go_simp
   with_reducible rfl
  rotate_left
  ·simp only [Act.put, List.setIfInBounds_toArray, List.set_cons_zero, List.set_cons_succ, i64_w, i32_w]
   rfl
  refine pure_ (i := 10) (N := some 84) (v := ?_) (a' := ?_) #[true, true, true, true, true, true, true, true, true, true, true, false, false, false, false, false, false] rfl rfl (by kernel_rfl) (fun _ _ _ h => h) (Or.inl ⟨by rfl, ?_⟩) ?_ ?_
  rotate_left
  ·intro w'
   go_simp
   with_reducible rfl
  rotate_left
  ·simp only [Act.put, List.setIfInBounds_toArray, List.set_cons_zero, List.set_cons_succ, i64_w, i32_w]
   rfl
  refine pure_ (i := 11) (N := some 85) (v := ?_) (a' := ?_) #[true, true, true, true, true, true, true, true, true, true, true, true, false, false, false, false, false] rfl rfl (by kernel_rfl) (fun _ _ _ h => h) (Or.inl ⟨by rfl, ?_⟩) ?_ ?_
  rotate_left
  ·intro w'
   go_simp
   with_reducible rfl
  rotate_left
  ·simp only [Act.put, List.setIfInBounds_toArray, List.set_cons_zero, List.set_cons_succ, i64_w, i32_w]
   rfl
  refine take_ (i := 12) (N := some 86) (v := ?_) (a' := ?_) #[true, true, true, true, true, true, true, true, true, true, true, true, true, false, false, false, false] rfl rfl (by kernel_rfl) (fun _ _ _ h => h) (Or.inl ⟨by rfl, ?_⟩) hHeld ?_ ?_
  rotate_left
  ·intro w' hw'
   have cb0_ : w'.cell? ⟨g, 2, none⟩ = some (.int .i64 s0_2) := IsS42.cell_2 hw'.st
   go_simp
   with_reducible rfl
  rotate_left
  ·simp only [Act.put, List.setIfInBounds_toArray, List.set_cons_zero, List.set_cons_succ, i64_w, i32_w]
   rfl
  refine one_ (i := 13) (N := some 87) #[true, true, true, true, true, true, true, true, true, true, true, true, true, true, false, false, false] rfl rfl (by kernel_rfl) (by decide) (fun K hK => ?_)
  refine goes_ Tryd.func15 (by kernel_rfl) rfl #[.int .i64 (wrap64 q), .int .i64 s0_1, .int .i64 s0_2] (by rfl) rfl rfl (by simp only [List.map_toArray, List.map_cons, List.map_nil]; rfl) ?_
  with_reducible refine (sat_Clamp.calls (wrap64 q) s0_1 s0_2 t3 _ A3).mono ?_
  rintro e w' ⟨rfl, ⟨nd, rfl⟩⟩
  refine ⟨_, rfl, ?_⟩
  have hN_ := hHeld.drewN nd
  refine hK.out _ _ hN_ (fun hHeld => ?_)
  clear hK K hN_
  generalize W5.drewN nd = W5_ at hHeld ⊢
  refine norm_ (a' := ?_) ?_ ?_
  rotate_left
  ·show Act.put _ (some 87) _ = _
   simp only [Act.put, List.setIfInBounds_toArray, List.set_cons_zero, List.set_cons_succ, i64_w, i32_w]
   rfl
  refine pure_ (i := 14) (N := some 88) (v := ?_) (a' := ?_) #[true, true, true, true, true, true, true, true, true, true, true, true, true, true, true, false, false] rfl rfl (by kernel_rfl) (fun _ _ _ h => h) (Or.inl ⟨by rfl, ?_⟩) ?_ ?_
  rotate_left
  ·intro w'
   go_simp
   with_reducible rfl
  rotate_left
  ·simp only [Act.put, List.setIfInBounds_toArray, List.set_cons_zero, List.set_cons_succ, i64_w, i32_w]
   rfl
  refine pure_ (i := 15) (N := some 89) (v := ?_) (a' := ?_) #[true, true, true, true, true, true, true, true, true, true, true, true, true, true, true, true, false] rfl rfl (by kernel_rfl) (fun _ _ _ h => h) (Or.inl ⟨by rfl, ?_⟩) ?_ ?_
  rotate_left
  ·intro w'
   go_simp
   with_reducible rfl
  rotate_left
  ·simp only [Act.put, List.setIfInBounds_toArray, List.set_cons_zero, List.set_cons_succ, i64_w, i32_w]
   rfl
  refine last_ (i := 16) (N := none) #[true, true, true, true, true, true, true, true, true, true, true, true, true, true, true, true, true] rfl rfl (by kernel_rfl) (by decide) (fun K hK => ?_)
  have hs0_ : W5_.cell? ⟨g, 0, none⟩ = some (.int .i64 (wrap64 q)) := IsS42.cell_0 hHeld.st
  have hf0_ := IsS42.froz_0 hHeld.st
  refine skip_ (w1 := ?_) (by rfl) rfl ?_ ?_
  rotate_left
  ·go_simp
   rfl
  refine hK.out _ _ ?_
  refine done_ (by kernel_rfl) ?_
  clear hK K
  clear hs0_
  clear hf0_
  have h4 := IsS42.set_0 hHeld.st t3
  have hb4 := below_set hHeld.bel (IsS42.ge hHeld.st) (j := 0) (v := .int .i64 t3)
  have hk4 := KeepBut.set_ hHeld.keep 0 (.int .i64 t3)
  clear hHeld
  generalize W5_.setCell ⟨g, 0, none⟩ (.int .i64 t3) = W6 at h4 hb4 hk4 ⊢
  have hc0_ := IsS42.cell_0 h4
  go_wp2
  go_ret
  exact ⟨rfl, h4, hb4, hk4⟩
 ·subst c
  go_enter Tryd.func9, Tryd.ntmps9
  go_wp2_with (first | ((with_reducible refine gate_dst (N := 14) rfl ?_); refine goesL_ (some 14) rfl rfl Tryd.func15 (by kernel_rfl) rfl #[.int .i64 a2, .int .i64 0, .int .i64 1125899906842624] rfl (by (try simp only [List.map_toArray, List.map_cons, List.map_nil]); first | done | rfl) ?_; (with_reducible refine (sat_Clamp.calls a2 0 1125899906842624 t _ At).mono ?_); rintro e w' ⟨rfl, ⟨nd, rfl⟩⟩; refine ⟨_, rfl, ?_⟩; have hI1 := IsS42.drewN hI nd; have hB1 := pw_below_drewN hB nd; have hK1 := keep_drewN (KeepBut.refl w g none) nd; generalize World.drewN w nd = W1 at hI1 hB1 hK1 ⊢; have hc0_ : W1.cell? ⟨g, 0, none⟩ = some (.int .i64 s0_0) := IsS42.cell_0 hI1; have hf0_ := IsS42.froz_0 hI1; have hc1_ : W1.cell? ⟨g, 1, none⟩ = some (.int .i64 s0_1) := IsS42.cell_1 hI1; have hf1_ := IsS42.froz_1 hI1; have hc2_ : W1.cell? ⟨g, 2, none⟩ = some (.int .i64 s0_2) := IsS42.cell_2 hI1; have hf2_ := IsS42.froz_2 hI1; have hc3_ : W1.cell? ⟨g, 3, none⟩ = some (.bool true) := IsS42.cell_3 hI1; have hf3_ := IsS42.froz_3 hI1; have hc4_ : W1.cell? ⟨g, 4, none⟩ = some (.int .i64 s0_4) := IsS42.cell_4 hI1; have hf4_ := IsS42.froz_4 hI1) | ((with_reducible refine gate_dst (N := 40) rfl ?_); refine goesL_ (some 40) rfl rfl Tryd.func15 (by kernel_rfl) rfl #[.int .i64 a1, .int .i64 0, .int .i64 256] rfl (by (try simp only [List.map_toArray, List.map_cons, List.map_nil]); first | done | rfl) ?_; (with_reducible refine (sat_Clamp.calls a1 0 256 n _ An).mono ?_); rintro e w' ⟨rfl, ⟨nd, rfl⟩⟩; refine ⟨_, rfl, ?_⟩; have hI2 := IsS42.drewN (IsS42.set_4 (IsS42.set_3 hI1 true) t) nd; have hB2 := pw_below_drewN (below_set (below_set hB1 (IsS42.ge hI1) (j := 3) (v := .bool true)) (IsS42.ge hI1) (j := 4) (v := .int .i64 t)) nd; have hK2 := keep_drewN (KeepBut.set_ (KeepBut.set_ hK1 3 (.bool true)) 4 (.int .i64 t)) nd; clear hI1 hB1 hK1; clear hc0_ hf0_ hc1_ hf1_ hc2_ hf2_ hc3_ hf3_ hc4_ hf4_; generalize World.drewN ((W1.setCell ⟨g, 3, none⟩ (.bool true)).setCell ⟨g, 4, none⟩ (.int .i64 t)) nd = W2 at hI2 hB2 hK2 ⊢; have hc0_ : W2.cell? ⟨g, 0, none⟩ = some (.int .i64 s0_0) := IsS42.cell_0 hI2; have hf0_ := IsS42.froz_0 hI2; have hc1_ : W2.cell? ⟨g, 1, none⟩ = some (.int .i64 s0_1) := IsS42.cell_1 hI2; have hf1_ := IsS42.froz_1 hI2; have hc2_ : W2.cell? ⟨g, 2, none⟩ = some (.int .i64 s0_2) := IsS42.cell_2 hI2; have hf2_ := IsS42.froz_2 hI2; have hc3_ : W2.cell? ⟨g, 3, none⟩ = some (.bool true) := IsS42.cell_3 hI2; have hf3_ := IsS42.froz_3 hI2; have hc4_ : W2.cell? ⟨g, 4, none⟩ = some (.int .i64 t) := IsS42.cell_4 hI2; have hf4_ := IsS42.froz_4 hI2; have hG2 := hG.below hB2; obtain ⟨q0, q1, q2, q3, q4, q5, q6, q7, q8, q9, q10, q11, q12, q13, q14⟩ := hG2))
  refine wp_loop_rounds 4 ?_
  rw [rounds_succ]
  go_wp2
  rw [rounds_succ]
  go_wp2
  refine namedG_ ?_
  intro W3 hW3
  have h1 : LH w0 w W3 g (W2.alloc (.cells #[.int .i64 5, .int .i64 105, .int .i64 100, .int .i64 1000, .int .i64 0] 45)).heap.size s0_0 s0_1 s0_2 true t 26 1 1 0 0 := by rw [hW3]; exact ⟨IsS42.alloc (IsS42.alloc (hI2) _) _, below_alloc (below_alloc (hB2) _) _, keep_alloc (keep_alloc (hK2) _) _, blk_new _ _⟩
  (try simp only [sizeG_] at h1 ⊢)
  clear hW3 hI2 hB2 hK2
  generalize W2.heap.size + 1 = b at h1 ⊢
  refine start_ (n := 22) (S := fun w' => LH w0 w w' g b s0_0 s0_1 s0_2 true t 26 1 1 0 0) (ds := [21]) #[false, false, false, false, false, false, false, false, false, false, false, false, false, false, false, false, false, false, false, false, false, false] (by kernel_rfl) rfl rfl h1.drew (fun hHeld => ?_)
  clear h1
  generalize W3.drew = W3 at hHeld ⊢
  refine pure_ (i := 0) (N := some 52) (v := ?_) (a' := ?_) #[true, false, false, false, false, false, false, false, false, false, false, false, false, false, false, false, false, false, false, false, false, false] rfl rfl (by kernel_rfl) (fun _ _ _ h => h) (Or.inl ⟨by rfl, ?_⟩) ?_ ?_
  rotate_left
  ·intro w'
   go_simp
   with_reducible rfl
  rotate_left
  ·simp only [Act.put, List.setIfInBounds_toArray, List.set_cons_zero, List.set_cons_succ, i64_w, i32_w]
   rfl
  refine pure_ (i := 1) (N := some 53) (v := ?_) (a' := ?_) #[true, true, false, false, false, false, false, false, false, false, false, false, false, false, false, false, false, false, false, false, false, false] rfl rfl (by kernel_rfl) (fun _ _ _ h => h) (Or.inl ⟨by rfl, ?_⟩) ?_ ?_
  rotate_left
  ·intro w'
   go_simp
   with_reducible rfl
  rotate_left
  ·simp only [Act.put, List.setIfInBounds_toArray, List.set_cons_zero, List.set_cons_succ, i64_w, i32_w]
   rfl
  refine pure_ (i := 2) (N := some 54) (v := ?_) (a' := ?_) #[true, true, true, false, false, false, false, false, false, false, false, false, false, false, false, false, false, false, false, false, false, false] rfl rfl (by kernel_rfl) (fun _ _ _ h => h) (Or.inl ⟨by rfl, ?_⟩) ?_ ?_
  rotate_left
  ·intro w'
   go_simp
   with_reducible rfl
  rotate_left
  ·simp only [Act.put, List.setIfInBounds_toArray, List.set_cons_zero, List.set_cons_succ, i64_w, i32_w]
   rfl
  refine pure_ (i := 3) (N := some 55) (v := ?_) (a' := ?_) #[true, true, true, true, false, false, false, false, false, false, false, false, false, false, false, false, false, false, false, false, false, false] rfl rfl (by kernel_rfl) (fun _ _ _ h => h) (Or.inl ⟨by rfl, ?_⟩) ?_ ?_
  rotate_left
  ·intro w'
   go_simp
   with_reducible rfl
  rotate_left
  ·simp only [Act.put, List.setIfInBounds_toArray, List.set_cons_zero, List.set_cons_succ, i64_w, i32_w]
   rfl
  refine take_ (i := 4) (N := some 56) (v := ?_) (a' := ?_) #[true, true, true, true, true, false, false, false, false, false, false, false, false, false, false, false, false, false, false, false, false, false] rfl rfl (by kernel_rfl) (fun _ _ _ h => h) (Or.inl ⟨by rfl, ?_⟩) hHeld ?_ ?_
  rotate_left
  ·intro w' hw'
   have cb0_ : w'.cell? ⟨g, 0, none⟩ = some (.int .i64 s0_0) := IsS42.cell_0 hw'.st
   go_simp
   with_reducible rfl
  rotate_left
  ·simp only [Act.put, List.setIfInBounds_toArray, List.set_cons_zero, List.set_cons_succ, i64_w, i32_w]
   rfl
  refine pure_ (i := 5) (N := some 57) (v := ?_) (a' := ?_) #[true, true, true, true, true, true, false, false, false, false, false, false, false, false, false, false, false, false, false, false, false, false] rfl rfl (by kernel_rfl) (fun _ _ _ h => h) (Or.inl ⟨by rfl, ?_⟩) ?_ ?_
  rotate_left
  ·intro w'
   go_simp
   with_reducible rfl
  rotate_left
  ·simp only [Act.put, List.setIfInBounds_toArray, List.set_cons_zero, List.set_cons_succ, i64_w, i32_w]
   rfl
  refine take_ (i := 6) (N := some 58) (v := ?_) (a' := ?_) #[true, true, true, true, true, true, true, false, false, false, false, false, false, false, false, false, false, false, false, false, false, false] rfl rfl (by kernel_rfl) (fun _ _ _ h => h) (Or.inl ⟨by rfl, ?_⟩) hHeld ?_ ?_
  rotate_left
  ·intro w' hw'
   have cb0_ : w'.cell? ⟨b, 1, none⟩ = some (.int .i64 1) := (blk_cell hw'.row 1).trans rfl
   go_simp
   with_reducible rfl
  rotate_left
  ·simp only [Act.put, List.setIfInBounds_toArray, List.set_cons_zero, List.set_cons_succ, i64_w, i32_w]
   rfl
  refine pure_ (i := 7) (N := some 59) (v := ?_) (a' := ?_) #[true, true, true, true, true, true, true, true, false, false, false, false, false, false, false, false, false, false, false, false, false, false] rfl rfl (by kernel_rfl) (fun _ _ _ h => h) (Or.inl ⟨by rfl, ?_⟩) ?_ ?_
  rotate_left
  ·intro w'
   go_simp
   with_reducible rfl
  rotate_left
  ·simp only [Act.put, List.setIfInBounds_toArray, List.set_cons_zero, List.set_cons_succ, i64_w, i32_w]
   rfl
  refine take_ (i := 8) (N := some 60) (v := ?_) (a' := ?_) #[true, true, true, true, true, true, true, true, true, false, false, false, false, false, false, false, false, false, false, false, false, false] rfl rfl (by kernel_rfl) (fun _ _ _ h => h) (Or.inl ⟨by rfl, ?_⟩) hHeld ?_ ?_
  rotate_left
  ·intro w' hw'
   have cb0_ : w'.cell? ⟨b, 4, none⟩ = some (.int .i64 0) := (blk_cell hw'.row 4).trans rfl
   go_simp
   with_reducible rfl
  rotate_left
  ·simp only [Act.put, List.setIfInBounds_toArray, List.set_cons_zero, List.set_cons_succ, i64_w, i32_w]
   rfl
  refine pure_ (i := 9) (N := some 61) (v := ?_) (a' := ?_) #[true, true, true, true, true, true, true, true, true, true, false, false, false, false, false, false, false, false, false, false, false, false] rfl rfl (by kernel_rfl) (fun _ _ _ h => h) (Or.inl ⟨by rfl, ?_⟩) ?_ ?_
  rotate_left
  ·intro w'
   go_simp
   with_reducible rfl
  rotate_left
  ·simp only [Act.put, List.setIfInBounds_toArray, List.set_cons_zero, List.set_cons_succ, i64_w, i32_w]
   rfl
  refine pure_ (i := 10) (N := some 62) (v := ?_) (a' := ?_) #[true, true, true, true, true, true, true, true, true, true, true, false, false, false, false, false, false, false, false, false, false, false] rfl rfl (by kernel_rfl) (fun _ _ _ h => h) (Or.inl ⟨by rfl, ?_⟩) ?_ ?_
  rotate_left
  ·intro w'
   go_simp
   with_reducible rfl
  rotate_left
  ·simp only [Act.put, List.setIfInBounds_toArray, List.set_cons_zero, List.set_cons_succ, i64_w, i32_w]
   rfl
  refine pure_ (i := 11) (N := some 63) (v := ?_) (a' := ?_) #[true, true, true, true, true, true, true, true, true, true, true, true, false, false, false, false, false, false, false, false, false, false] rfl rfl (by kernel_rfl) (fun _ _ _ h => h) (Or.inl ⟨by rfl, ?_⟩) ?_ ?_
  rotate_left
  ·intro w'
   go_simp
   with_reducible rfl
  rotate_left
  ·simp only [Act.put, List.setIfInBounds_toArray, List.set_cons_zero, List.set_cons_succ, i64_w, i32_w]
   rfl
  refine pure_ (i := 12) (N := some 64) (v := ?_) (a' := ?_) #[true, true, true, true, true, true, true, true, true, true, true, true, true, false, false, false, false, false, false, false, false, false] rfl rfl (by kernel_rfl) (fun _ _ _ h => h) (Or.inl ⟨by rfl, ?_⟩) ?_ ?_
  rotate_left
  ·intro w'
   go_simp
   with_reducible rfl
  rotate_left
  ·simp only [Act.put, List.setIfInBounds_toArray, List.set_cons_zero, List.set_cons_succ, i64_w, i32_w]
   rfl
  refine take_ (i := 13) (N := some 65) (v := ?_) (a' := ?_) #[true, true, true, true, true, true, true, true, true, true, true, true, true, true, false, false, false, false, false, false, false, false] rfl rfl (by kernel_rfl) (fun _ _ _ h => h) (Or.inl ⟨by rfl, ?_⟩) hHeld ?_ ?_
  rotate_left
  ·intro w' hw'
   have cb0_ : w'.cell? ⟨b, 2, none⟩ = some (.int .i64 1) := (blk_cell hw'.row 2).trans rfl
   go_simp
   with_reducible rfl
  rotate_left
  ·simp only [Act.put, List.setIfInBounds_toArray, List.set_cons_zero, List.set_cons_succ, i64_w, i32_w]
   rfl
  refine pure_ (i := 14) (N := some 66) (v := ?_) (a' := ?_) #[true, true, true, true, true, true, true, true, true, true, true, true, true, true, true, false, false, false, false, false, false, false] rfl rfl (by kernel_rfl) (fun _ _ _ h => h) (Or.inl ⟨by rfl, ?_⟩) ?_ ?_
  rotate_left
  ·intro w'
   go_simp
   with_reducible rfl
  rotate_left
  ·simp only [Act.put, List.setIfInBounds_toArray, List.set_cons_zero, List.set_cons_succ, i64_w, i32_w]
   rfl
  refine pure_ (i := 16) (N := some 68) (v := ?_) (a' := ?_) #[true, true, true, true, true, true, true, true, true, true, true, true, true, true, true, false, true, false, false, false, false, false] rfl rfl (by kernel_rfl) (fun _ _ _ h => h) (Or.inl ⟨by rfl, ?_⟩) ?_ ?_
  rotate_left
  ·intro w'
   go_simp
   with_reducible rfl
  rotate_left
  ·simp only [Act.put, List.setIfInBounds_toArray, List.set_cons_zero, List.set_cons_succ, i64_w, i32_w]
   rfl
  refine take_ (i := 17) (N := some 69) (v := ?_) (a' := ?_) #[true, true, true, true, true, true, true, true, true, true, true, true, true, true, true, false, true, true, false, false, false, false] rfl rfl (by kernel_rfl) (fun _ _ _ h => h) (Or.inl ⟨by rfl, ?_⟩) hHeld ?_ ?_
  rotate_left
  ·intro w' hw'
   have cb0_ : w'.cell? ⟨b, 3, none⟩ = some (.int .i64 0) := (blk_cell hw'.row 3).trans rfl
   go_simp
   with_reducible rfl
  rotate_left
  ·simp only [Act.put, List.setIfInBounds_toArray, List.set_cons_zero, List.set_cons_succ, i64_w, i32_w]
   rfl
  refine one_ (i := 15) (N := some 67) #[true, true, true, true, true, true, true, true, true, true, true, true, true, true, true, true, true, true, false, false, false, false] rfl rfl (by kernel_rfl) (by decide) (fun K hK => ?_)
  refine goes_ Tryd.func16 (by kernel_rfl) rfl #[.int .i64 s0_0, .int .i64 (wrap64 (1 - wrap64 0)), .int .i64 1, .int .i64 1] (by rfl) rfl rfl (by simp only [List.map_toArray, List.map_cons, List.map_nil]; rfl) ?_
  refine (muldiv_Do.calls s0_0 _ 1 1 q _ Aq).mono ?_
  rintro e w' ⟨rfl, hb⟩
  refine ⟨_, rfl, ?_⟩
  have hN_ := hHeld.below hb
  refine hK.out _ _ hN_ (fun hHeld => ?_)
  clear hK K hN_ hb
  refine norm_ (a' := ?_) ?_ ?_
  rotate_left
  ·show Act.put _ (some 67) _ = _
   simp only [Act.put, List.setIfInBounds_toArray, List.set_cons_zero, List.set_cons_succ, i64_w, i32_w]
   rfl
  refine pure_ (i := 18) (N := some 70) (v := ?_) (a' := ?_) #[true, true, true, true, true, true, true, true, true, true, true, true, true, true, true, true, true, true, true, false, false, false] rfl rfl (by kernel_rfl) (fun _ _ _ h => h) (Or.inl ⟨by rfl, ?_⟩) ?_ ?_
  rotate_left
  ·intro w'
   go_simp
   with_reducible rfl
  rotate_left
  ·simp only [Act.put, List.setIfInBounds_toArray, List.set_cons_zero, List.set_cons_succ, i64_w, i32_w]
   rfl
  refine pure_ (i := 19) (N := some 71) (v := ?_) (a' := ?_) #[true, true, true, true, true, true, true, true, true, true, true, true, true, true, true, true, true, true, true, true, false, false] rfl rfl (by kernel_rfl) (fun _ _ _ h => h) (Or.inl ⟨by rfl, ?_⟩) ?_ ?_
  rotate_left
  ·intro w'
   go_simp
   with_reducible rfl
  rotate_left
  ·simp only [Act.put, List.setIfInBounds_toArray, List.set_cons_zero, List.set_cons_succ, i64_w, i32_w]
   rfl
  refine pure_ (i := 20) (N := some 72) (v := ?_) (a' := ?_) #[true, true, true, true, true, true, true, true, true, true, true, true, true, true, true, true, true, true, true, true, true, false] rfl rfl (by kernel_rfl) (fun _ _ _ h => h) (Or.inl ⟨by rfl, ?_⟩) ?_ ?_
  rotate_left
  ·intro w'
   go_simp
   with_reducible rfl
  rotate_left
  ·simp only [Act.put, List.setIfInBounds_toArray, List.set_cons_zero, List.set_cons_succ, i64_w, i32_w]
   rfl
  refine last_ (i := 21) (N := none) #[true, true, true, true, true, true, true, true, true, true, true, true, true, true, true, true, true, true, true, true, true, true] rfl rfl (by kernel_rfl) (by decide) (fun K hK => ?_)
  have hs0_ : w'.cell? ⟨g, 0, none⟩ = some (.int .i64 s0_0) := IsS42.cell_0 hHeld.st
  have hf0_ := IsS42.froz_0 hHeld.st
  refine skip_ (w1 := ?_) (by rfl) rfl ?_ ?_
  rotate_left
  ·go_simp
   rfl
  refine hK.out _ _ ?_
  refine done_ (by kernel_rfl) ?_
  clear hK K
  clear hs0_
  clear hf0_
  have h2 : IsS42 w0 (w'.setCell ⟨g, 0, none⟩ (.int .i64 (wrap64 q))) g (wrap64 q) s0_1 s0_2 true t := IsS42.set_0 hHeld.st _
  have hb2 := below_set hHeld.bel (IsS42.ge hHeld.st) (j := 0) (v := .int .i64 (wrap64 q))
  have hk2 := KeepBut.set_ hHeld.keep 0 (.int .i64 (wrap64 q))
  clear hHeld
  generalize w'.setCell ⟨g, 0, none⟩ (.int .i64 (wrap64 q)) = W5 at h2 hb2 hk2 ⊢
  try go_wp2
  have h3 : LK w0 w W5 g (wrap64 q) s0_1 s0_2 true t := ⟨h2, hb2, hk2⟩
  clear h2 hb2 hk2
  refine start_ (n := 17) (S := fun w' => LK w0 w w' g (wrap64 q) s0_1 s0_2 true t) (ds := [16]) #[false, false, false, false, false, false, false, false, false, false, false, false, false, false, false, false, false] (by kernel_rfl) rfl rfl h3.drew (fun hHeld => ?_)
  clear h3
  generalize W5.drew = W5 at hHeld ⊢
  refine pure_ (i := 0) (N := some 74) (v := ?_) (a' := ?_) #[true, false, false, false, false, false, false, false, false, false, false, false, false, false, false, false, false] rfl rfl (by kernel_rfl) (fun _ _ _ h => h) (Or.inl ⟨by rfl, ?_⟩) ?_ ?_
  rotate_left
  ·intro w'
   go_simp
   with_reducible rfl
  rotate_left
  ·simp only [Act.put, List.setIfInBounds_toArray, List.set_cons_zero, List.set_cons_succ, i64_w, i32_w]
   rfl
  refine pure_ (i := 1) (N := some 75) (v := ?_) (a' := ?_) #[true, true, false, false, false, false, false, false, false, false, false, false, false, false, false, false, false] rfl rfl (by kernel_rfl) (fun _ _ _ h => h) (Or.inl ⟨by rfl, ?_⟩) ?_ ?_
  rotate_left
  ·intro w'
   go_simp
   with_reducible rfl
  rotate_left
  ·simp only [Act.put, List.setIfInBounds_toArray, List.set_cons_zero, List.set_cons_succ, i64_w, i32_w]
   rfl
  refine pure_ (i := 2) (N := some 76) (v := ?_) (a' := ?_) #[true, true, true, false, false, false, false, false, false, false, false, false, false, false, false, false, false] rfl rfl (by kernel_rfl) (fun _ _ _ h => h) (Or.inl ⟨by rfl, ?_⟩) ?_ ?_
  rotate_left
  ·intro w'
   go_simp
   with_reducible rfl
  rotate_left
  ·simp only [Act.put, List.setIfInBounds_toArray, List.set_cons_zero, List.set_cons_succ, i64_w, i32_w]
   rfl
  refine pure_ (i := 3) (N := some 77) (v := ?_) (a' := ?_) #[true, true, true, true, false, false, false, false, false, false, false, false, false, false, false, false, false] rfl rfl (by kernel_rfl) (fun _ _ _ h => h) (Or.inl ⟨by rfl, ?_⟩) ?_ ?_
  rotate_left
  ·intro w'
   go_simp
   with_reducible rfl
  rotate_left
  ·simp only [Act.put, List.setIfInBounds_toArray, List.set_cons_zero, List.set_cons_succ, i64_w, i32_w]
   rfl
  refine take_ (i := 4) (N := some 78) (v := ?_) (a' := ?_) #[true, true, true, true, true, false, false, false, false, false, false, false, false, false, false, false, false] rfl rfl (by kernel_rfl) (fun _ _ _ h => h) (Or.inl ⟨by rfl, ?_⟩) hHeld ?_ ?_
  rotate_left
  ·intro w' hw'
   have cb0_ : w'.cell? ⟨g, 0, none⟩ = some (.int .i64 (wrap64 q)) := IsS42.cell_0 hw'.st
   go_simp
   with_reducible rfl
  rotate_left
  ·simp only [Act.put, List.setIfInBounds_toArray, List.set_cons_zero, List.set_cons_succ, i64_w, i32_w]
   rfl
  refine pure_ (i := 5) (N := some 79) (v := ?_) (a' := ?_) #[true, true, true, true, true, true, false, false, false, false, false, false, false, false, false, false, false] rfl rfl (by kernel_rfl) (fun _ _ _ h => h) (Or.inl ⟨by rfl, ?_⟩) ?_ ?_
  rotate_left
  ·intro w'
   go_simp
   with_reducible rfl
  rotate_left
  ·simp only [Act.put, List.setIfInBounds_toArray, List.set_cons_zero, List.set_cons_succ, i64_w, i32_w]
   rfl
  refine pure_ (i := 6) (N := some 80) (v := ?_) (a' := ?_) #[true, true, true, true, true, true, true, false, false, false, false, false, false, false, false, false, false] rfl rfl (by kernel_rfl) (fun _ _ _ h => h) (Or.inl ⟨by rfl, ?_⟩) ?_ ?_
  rotate_left
  ·intro w'
   go_simp
   with_reducible rfl
  rotate_left
  ·simp only [Act.put, List.setIfInBounds_toArray, List.set_cons_zero, List.set_cons_succ, i64_w, i32_w]
   rfl
  refine pure_ (i := 7) (N := some 81) (v := ?_) (a' := ?_) #[true, true, true, true, true, true, true, true, false, false, false, false, false, false, false, false, false] rfl rfl (by kernel_rfl) (fun _ _ _ h => h) (Or.inl ⟨by rfl, ?_⟩) ?_ ?_
  rotate_left
  ·intro w'
   go_simp
   with_reducible rfl
  rotate_left
  ·simp only [Act.put, List.setIfInBounds_toArray, List.set_cons_zero, List.set_cons_succ, i64_w, i32_w]
   rfl
  refine take_ (i := 8) (N := some 82) (v := ?_) (a' := ?_) #[true, true, true, true, true, true, true, true, true, false, false, false, false, false, false, false, false] rfl rfl (by kernel_rfl) (fun _ _ _ h => h) (Or.inl ⟨by rfl, ?_⟩) hHeld ?_ ?_
  rotate_left
  ·intro w' hw'
   have cb0_ : w'.cell? ⟨g, 1, none⟩ = some (.int .i64 s0_1) := IsS42.cell_1 hw'.st
   go_simp
   with_reducible rfl
  rotate_left
  ·simp only [Act.put, List.setIfInBounds_toArray, List.set_cons_zero, List.set_cons_succ, i64_w, i32_w]
   rfl
  refine pure_ (i := 9) (N := some 83) (v := ?_) (a' := ?_) #[true, true, true, true, true, true, true, true, true, true, false, false, false, false, false, false, false] rfl rfl (by kernel_rfl) (fun _ _ _ h => h) (Or.inl ⟨by rfl, ?_⟩) ?_ ?_
  rotate_left
  ·intro w'
   go_simp
   with_reducible rfl
  rotate_left
  ·simp only [Act.put, List.setIfInBounds_toArray, List.set_cons_zero, List.set_cons_succ, i64_w, i32_w]
   rfl
  refine pure_ (i := 10) (N := some 84) (v := ?_) (a' := ?_) #[true, true, true, true, true, true, true, true, true, true, true, false, false, false, false, false, false] rfl rfl (by kernel_rfl) (fun _ _ _ h => h) (Or.inl ⟨by rfl, ?_⟩) ?_ ?_
  rotate_left
  ·intro w'
   go_simp
   with_reducible rfl
  rotate_left
  ·simp only [Act.put, List.setIfInBounds_toArray, List.set_cons_zero, List.set_cons_succ, i64_w, i32_w]
   rfl
  refine pure_ (i := 11) (N := some 85) (v := ?_) (a' := ?_) #[true, true, true, true, true, true, true, true, true, true, true, true, false, false, false, false, false] rfl rfl (by kernel_rfl) (fun _ _ _ h => h) (Or.inl ⟨by rfl, ?_⟩) ?_ ?_
  rotate_left
  ·intro w'
   go_simp
   with_reducible rfl
  rotate_left
  ·simp only [Act.put, List.setIfInBounds_toArray, List.set_cons_zero, List.set_cons_succ, i64_w, i32_w]
   rfl
  refine take_ (i := 12) (N := some 86) (v := ?_) (a' := ?_) #[true, true, true, true, true, true, true, true, true, true, true, true, true, false, false, false, false] rfl rfl (by kernel_rfl) (fun _ _ _ h => h) (Or.inl ⟨by rfl, ?_⟩) hHeld ?_ ?_
  rotate_left
  ·intro w' hw'
   have cb0_ : w'.cell? ⟨g, 2, none⟩ = some (.int .i64 s0_2) := IsS42.cell_2 hw'.st
   go_simp
   with_reducible rfl
  rotate_left
  ·simp only [Act.put, List.setIfInBounds_toArray, List.set_cons_zero, List.set_cons_succ, i64_w, i32_w]
   rfl
  refine one_ (i := 13) (N := some 87) #[true, true, true, true, true, true, true, true, true, true, true, true, true, true, false, false, false] rfl rfl (by kernel_rfl) (by decide) (fun K hK => ?_)
  refine goes_ Tryd.func15 (by kernel_rfl) rfl #[.int .i64 (wrap64 q), .int .i64 s0_1, .int .i64 s0_2] (by rfl) rfl rfl (by simp only [List.map_toArray, List.map_cons, List.map_nil]; rfl) ?_
  with_reducible refine (sat_Clamp.calls (wrap64 q) s0_1 s0_2 t3 _ A3).mono ?_
  rintro e w' ⟨rfl, ⟨nd, rfl⟩⟩
  refine ⟨_, rfl, ?_⟩
  have hN_ := hHeld.drewN nd
  refine hK.out _ _ hN_ (fun hHeld => ?_)
  clear hK K hN_
  generalize W5.drewN nd = W5_ at hHeld ⊢
  refine norm_ (a' := ?_) ?_ ?_
  rotate_left
  ·show Act.put _ (some 87) _ = _
   simp only [Act.put, List.setIfInBounds_toArray, List.set_cons_zero, List.set_cons_succ, i64_w, i32_w]
   rfl
  refine pure_ (i := 14) (N := some 88) (v := ?_) (a' := ?_) #[true, true, true, true, true, true, true, true, true, true, true, true, true, true, true, false, false] rfl rfl (by kernel_rfl) (fun _ _ _ h => h) (Or.inl ⟨by rfl, ?_⟩) ?_ ?_
  rotate_left
  ·intro w'
   go_simp
   with_reducible rfl
  rotate_left
  ·simp only [Act.put, List.setIfInBounds_toArray, List.set_cons_zero, List.set_cons_succ, i64_w, i32_w]
   rfl
  refine pure_ (i := 15) (N := some 89) (v := ?_) (a' := ?_) #[true, true, true, true, true, true, true, true, true, true, true, true, true, true, true, true, false] rfl rfl (by kernel_rfl) (fun _ _ _ h => h) (Or.inl ⟨by rfl, ?_⟩) ?_ ?_
  rotate_left
  ·intro w'
   go_simp
   with_reducible rfl
  rotate_left
  ·simp only [Act.put, List.setIfInBounds_toArray, List.set_cons_zero, List.set_cons_succ, i64_w, i32_w]
   rfl
  refine last_ (i := 16) (N := none) #[true, true, true, true, true, true, true, true, true, true, true, true, true, true, true, true, true] rfl rfl (by kernel_rfl) (by decide) (fun K hK => ?_)
  have hs0_ : W5_.cell? ⟨g, 0, none⟩ = some (.int .i64 (wrap64 q)) := IsS42.cell_0 hHeld.st
  have hf0_ := IsS42.froz_0 hHeld.st
  refine skip_ (w1 := ?_) (by rfl) rfl ?_ ?_
  rotate_left
  ·go_simp
   rfl
  refine hK.out _ _ ?_
  refine done_ (by kernel_rfl) ?_
  clear hK K
  clear hs0_
  clear hf0_
  have h4 := IsS42.set_0 hHeld.st t3
  have hb4 := below_set hHeld.bel (IsS42.ge hHeld.st) (j := 0) (v := .int .i64 t3)
  have hk4 := KeepBut.set_ hHeld.keep 0 (.int .i64 t3)
  clear hHeld
  generalize W5_.setCell ⟨g, 0, none⟩ (.int .i64 t3) = W6 at h4 hb4 hk4 ⊢
  have hc0_ := IsS42.cell_0 h4
  go_wp2
  go_ret
  exact ⟨rfl, h4, hb4, hk4⟩
set_option maxHeartbeats 8000000 in
set_option maxRecDepth 100000 in
theorem lossy_upd2 (g : Nat) (s0_0 s0_1 s0_2 : Int) (s0_3 : Bool) (s0_4 a1 a2 n t : Int) (w0 w : World) (hI : IsS42 w0 w g s0_0 s0_1 s0_2 s0_3 s0_4) (hB : Below w0.heap.size w0 w) (hG : GL w0) (q : Int) (Aq : muldiv_Do.f s0_0 (wrap64 (512 - wrap64 n)) 512 1 = some q) (t3 : Int) (A3 : sat_Clamp.f (wrap64 q) s0_1 s0_2 = some t3) (At : sat_Clamp.f a2 0 1125899906842624 = some t) (An : sat_Clamp.f a1 0 256 = some n) (cn : ¬ n ≤ 5) (cn2 : ¬ n ≤ 26) (hn : n ≤ 256) (c : s0_3 = false ∨ s0_3 = true ∧ decide (wrap64 (t - s0_4) < 200000) = false) :
  Calls Tryd.prog 9 #[.pointer (some ⟨g, 0, none⟩), .int .i64 a1, .int .i64 a2] w fun e w' => e = .returned (.int .i64 t3) ∧ IsS42 w0 w' g t3 s0_1 s0_2 true t ∧ Below w0.heap.size w0 w' ∧ KeepBut w w' g none := by
 have hpn : ∀ (a_ : Addr) (W_ : World), (Go.binOp .eql 24 (.pointer (some a_)) (.pointer none)).run Tryd.prog W_ = .ok (.bool false) W_ := fun _ _ => by kernel_rfl
 have hix0 : ∀ W_ : World, (Instr.index 46 (.agg #[.int .i64 5, .int .i64 105, .int .i64 100, .int .i64 1000, .int .i64 0, .int .i64 26, .int .i64 1, .int .i64 1, .int .i64 0, .int .i64 0, .int .i64 256, .int .i64 512, .int .i64 512, .int .i64 0, .int .i64 1]) (.int .i64 0)).run Tryd.prog W_ = .ok (.agg #[.int .i64 5, .int .i64 105, .int .i64 100, .int .i64 1000, .int .i64 0]) W_ := fun _ => by kernel_rfl
 have hix1 : ∀ W_ : World, (Instr.index 46 (.agg #[.int .i64 5, .int .i64 105, .int .i64 100, .int .i64 1000, .int .i64 0, .int .i64 26, .int .i64 1, .int .i64 1, .int .i64 0, .int .i64 0, .int .i64 256, .int .i64 512, .int .i64 512, .int .i64 0, .int .i64 1]) (.int .i64 1)).run Tryd.prog W_ = .ok (.agg #[.int .i64 26, .int .i64 1, .int .i64 1, .int .i64 0, .int .i64 0]) W_ := fun _ => by kernel_rfl
 have hix2 : ∀ W_ : World, (Instr.index 46 (.agg #[.int .i64 5, .int .i64 105, .int .i64 100, .int .i64 1000, .int .i64 0, .int .i64 26, .int .i64 1, .int .i64 1, .int .i64 0, .int .i64 0, .int .i64 256, .int .i64 512, .int .i64 512, .int .i64 0, .int .i64 1]) (.int .i64 2)).run Tryd.prog W_ = .ok (.agg #[.int .i64 256, .int .i64 512, .int .i64 512, .int .i64 0, .int .i64 1]) W_ := fun _ => by kernel_rfl
 have cn0_ : decide (5 < n) = true := decide_eq_true (by omega)
 have cn1_ : decide (26 < n) = true := decide_eq_true (by omega)
 have cn2_ : decide (256 < n) = false := decide_eq_false (by omega)
 rcases c with c | ⟨c, hc⟩
 ·subst c
  go_enter Tryd.func9, Tryd.ntmps9
  go_wp2_with (first | ((with_reducible refine gate_dst (N := 14) rfl ?_); refine goesL_ (some 14) rfl rfl Tryd.func15 (by kernel_rfl) rfl #[.int .i64 a2, .int .i64 0, .int .i64 1125899906842624] rfl (by (try simp only [List.map_toArray, List.map_cons, List.map_nil]); first | done | rfl) ?_; (with_reducible refine (sat_Clamp.calls a2 0 1125899906842624 t _ At).mono ?_); rintro e w' ⟨rfl, ⟨nd, rfl⟩⟩; refine ⟨_, rfl, ?_⟩; have hI1 := IsS42.drewN hI nd; have hB1 := pw_below_drewN hB nd; have hK1 := keep_drewN (KeepBut.refl w g none) nd; generalize World.drewN w nd = W1 at hI1 hB1 hK1 ⊢; have hc0_ : W1.cell? ⟨g, 0, none⟩ = some (.int .i64 s0_0) := IsS42.cell_0 hI1; have hf0_ := IsS42.froz_0 hI1; have hc1_ : W1.cell? ⟨g, 1, none⟩ = some (.int .i64 s0_1) := IsS42.cell_1 hI1; have hf1_ := IsS42.froz_1 hI1; have hc2_ : W1.cell? ⟨g, 2, none⟩ = some (.int .i64 s0_2) := IsS42.cell_2 hI1; have hf2_ := IsS42.froz_2 hI1; have hc3_ : W1.cell? ⟨g, 3, none⟩ = some (.bool false) := IsS42.cell_3 hI1; have hf3_ := IsS42.froz_3 hI1; have hc4_ : W1.cell? ⟨g, 4, none⟩ = some (.int .i64 s0_4) := IsS42.cell_4 hI1; have hf4_ := IsS42.froz_4 hI1) | ((with_reducible refine gate_dst (N := 40) rfl ?_); refine goesL_ (some 40) rfl rfl Tryd.func15 (by kernel_rfl) rfl #[.int .i64 a1, .int .i64 0, .int .i64 256] rfl (by (try simp only [List.map_toArray, List.map_cons, List.map_nil]); first | done | rfl) ?_; (with_reducible refine (sat_Clamp.calls a1 0 256 n _ An).mono ?_); rintro e w' ⟨rfl, ⟨nd, rfl⟩⟩; refine ⟨_, rfl, ?_⟩; have hI2 := IsS42.drewN (IsS42.set_4 (IsS42.set_3 hI1 true) t) nd; have hB2 := pw_below_drewN (below_set (below_set hB1 (IsS42.ge hI1) (j := 3) (v := .bool true)) (IsS42.ge hI1) (j := 4) (v := .int .i64 t)) nd; have hK2 := keep_drewN (KeepBut.set_ (KeepBut.set_ hK1 3 (.bool true)) 4 (.int .i64 t)) nd; clear hI1 hB1 hK1; clear hc0_ hf0_ hc1_ hf1_ hc2_ hf2_ hc3_ hf3_ hc4_ hf4_; generalize World.drewN ((W1.setCell ⟨g, 3, none⟩ (.bool true)).setCell ⟨g, 4, none⟩ (.int .i64 t)) nd = W2 at hI2 hB2 hK2 ⊢; have hc0_ : W2.cell? ⟨g, 0, none⟩ = some (.int .i64 s0_0) := IsS42.cell_0 hI2; have hf0_ := IsS42.froz_0 hI2; have hc1_ : W2.cell? ⟨g, 1, none⟩ = some (.int .i64 s0_1) := IsS42.cell_1 hI2; have hf1_ := IsS42.froz_1 hI2; have hc2_ : W2.cell? ⟨g, 2, none⟩ = some (.int .i64 s0_2) := IsS42.cell_2 hI2; have hf2_ := IsS42.froz_2 hI2; have hc3_ : W2.cell? ⟨g, 3, none⟩ = some (.bool true) := IsS42.cell_3 hI2; have hf3_ := IsS42.froz_3 hI2; have hc4_ : W2.cell? ⟨g, 4, none⟩ = some (.int .i64 t) := IsS42.cell_4 hI2; have hf4_ := IsS42.froz_4 hI2; have hG2 := hG.below hB2; obtain ⟨q0, q1, q2, q3, q4, q5, q6, q7, q8, q9, q10, q11, q12, q13, q14⟩ := hG2))
  refine wp_loop_rounds 4 ?_
  rw [rounds_succ]
  go_wp2
  rw [rounds_succ]
  go_wp2
  rw [rounds_succ]
  go_wp2
  refine namedG_ ?_
  intro W3 hW3
  have h1 : LH w0 w W3 g ((W2.alloc (.cells #[.int .i64 5, .int .i64 105, .int .i64 100, .int .i64 1000, .int .i64 0] 45)).alloc (.cells #[.int .i64 26, .int .i64 1, .int .i64 1, .int .i64 0, .int .i64 0] 45)).heap.size s0_0 s0_1 s0_2 true t 256 512 512 0 1 := by rw [hW3]; exact ⟨IsS42.alloc (IsS42.alloc (IsS42.alloc (hI2) _) _) _, below_alloc (below_alloc (below_alloc (hB2) _) _) _, keep_alloc (keep_alloc (keep_alloc (hK2) _) _) _, blk_new _ _⟩
  (try simp only [sizeG_] at h1 ⊢)
  clear hW3 hI2 hB2 hK2
  generalize W2.heap.size + 1 + 1 = b at h1 ⊢
  refine start_ (n := 22) (S := fun w' => LH w0 w w' g b s0_0 s0_1 s0_2 true t 256 512 512 0 1) (ds := [21]) #[false, false, false, false, false, false, false, false, false, false, false, false, false, false, false, false, false, false, false, false, false, false] (by kernel_rfl) rfl rfl h1.drew (fun hHeld => ?_)
  clear h1
  generalize W3.drew = W3 at hHeld ⊢
  refine pure_ (i := 0) (N := some 52) (v := ?_) (a' := ?_) #[true, false, false, false, false, false, false, false, false, false, false, false, false, false, false, false, false, false, false, false, false, false] rfl rfl (by kernel_rfl) (fun _ _ _ h => h) (Or.inl ⟨by rfl, ?_⟩) ?_ ?_
  rotate_left
  ·intro w'
   go_simp
   with_reducible rfl
  rotate_left
  ·simp only [Act.put, List.setIfInBounds_toArray, List.set_cons_zero, List.set_cons_succ, i64_w, i32_w]
   rfl
  refine pure_ (i := 1) (N := some 53) (v := ?_) (a' := ?_) #[true, true, false, false, false, false, false, false, false, false, false, false, false, false, false, false, false, false, false, false, false, false] rfl rfl (by kernel_rfl) (fun _ _ _ h => h) (Or.inl ⟨by rfl, ?_⟩) ?_ ?_
  rotate_left
  ·intro w'
   go_simp
   with_reducible rfl
  rotate_left
  ·simp only [Act.put, List.setIfInBounds_toArray, List.set_cons_zero, List.set_cons_succ, i64_w, i32_w]
   rfl
  refine pure_ (i := 2) (N := some 54) (v := ?_) (a' := ?_) #[true, true, true, false, false, false, false, false, false, false, false, false, false, false, false, false, false, false, false, false, false, false] rfl rfl (by kernel_rfl) (fun _ _ _ h => h) (Or.inl ⟨by rfl, ?_⟩) ?_ ?_
  rotate_left
  ·intro w'
   go_simp
   with_reducible rfl
  rotate_left
  ·simp only [Act.put, List.setIfInBounds_toArray, List.set_cons_zero, List.set_cons_succ, i64_w, i32_w]
   rfl
  refine pure_ (i := 3) (N := some 55) (v := ?_) (a' := ?_) #[true, true, true, true, false, false, false, false, false, false, false, false, false, false, false, false, false, false, false, false, false, false] rfl rfl (by kernel_rfl) (fun _ _ _ h => h) (Or.inl ⟨by rfl, ?_⟩) ?_ ?_
  rotate_left
  ·intro w'
   go_simp
   with_reducible rfl
  rotate_left
  ·simp only [Act.put, List.setIfInBounds_toArray, List.set_cons_zero, List.set_cons_succ, i64_w, i32_w]
   rfl
  refine take_ (i := 4) (N := some 56) (v := ?_) (a' := ?_) #[true, true, true, true, true, false, false, false, false, false, false, false, false, false, false, false, false, false, false, false, false, false] rfl rfl (by kernel_rfl) (fun _ _ _ h => h) (Or.inl ⟨by rfl, ?_⟩) hHeld ?_ ?_
  rotate_left
  ·intro w' hw'
   have cb0_ : w'.cell? ⟨g, 0, none⟩ = some (.int .i64 s0_0) := IsS42.cell_0 hw'.st
   go_simp
   with_reducible rfl
  rotate_left
  ·simp only [Act.put, List.setIfInBounds_toArray, List.set_cons_zero, List.set_cons_succ, i64_w, i32_w]
   rfl
  refine pure_ (i := 5) (N := some 57) (v := ?_) (a' := ?_) #[true, true, true, true, true, true, false, false, false, false, false, false, false, false, false, false, false, false, false, false, false, false] rfl rfl (by kernel_rfl) (fun _ _ _ h => h) (Or.inl ⟨by rfl, ?_⟩) ?_ ?_
  rotate_left
  ·intro w'
   go_simp
   with_reducible rfl
  rotate_left
  ·simp only [Act.put, List.setIfInBounds_toArray, List.set_cons_zero, List.set_cons_succ, i64_w, i32_w]
   rfl
  refine take_ (i := 6) (N := some 58) (v := ?_) (a' := ?_) #[true, true, true, true, true, true, true, false, false, false, false, false, false, false, false, false, false, false, false, false, false, false] rfl rfl (by kernel_rfl) (fun _ _ _ h => h) (Or.inl ⟨by rfl, ?_⟩) hHeld ?_ ?_
  rotate_left
  ·intro w' hw'
   have cb0_ : w'.cell? ⟨b, 1, none⟩ = some (.int .i64 512) := (blk_cell hw'.row 1).trans rfl
   go_simp
   with_reducible rfl
  rotate_left
  ·simp only [Act.put, List.setIfInBounds_toArray, List.set_cons_zero, List.set_cons_succ, i64_w, i32_w]
   rfl
  refine pure_ (i := 7) (N := some 59) (v := ?_) (a' := ?_) #[true, true, true, true, true, true, true, true, false, false, false, false, false, false, false, false, false, false, false, false, false, false] rfl rfl (by kernel_rfl) (fun _ _ _ h => h) (Or.inl ⟨by rfl, ?_⟩) ?_ ?_
  rotate_left
  ·intro w'
   go_simp
   with_reducible rfl
  rotate_left
  ·simp only [Act.put, List.setIfInBounds_toArray, List.set_cons_zero, List.set_cons_succ, i64_w, i32_w]
   rfl
  refine take_ (i := 8) (N := some 60) (v := ?_) (a' := ?_) #[true, true, true, true, true, true, true, true, true, false, false, false, false, false, false, false, false, false, false, false, false, false] rfl rfl (by kernel_rfl) (fun _ _ _ h => h) (Or.inl ⟨by rfl, ?_⟩) hHeld ?_ ?_
  rotate_left
  ·intro w' hw'
   have cb0_ : w'.cell? ⟨b, 4, none⟩ = some (.int .i64 1) := (blk_cell hw'.row 4).trans rfl
   go_simp
   with_reducible rfl
  rotate_left
  ·simp only [Act.put, List.setIfInBounds_toArray, List.set_cons_zero, List.set_cons_succ, i64_w, i32_w]
   rfl
  refine pure_ (i := 9) (N := some 61) (v := ?_) (a' := ?_) #[true, true, true, true, true, true, true, true, true, true, false, false, false, false, false, false, false, false, false, false, false, false] rfl rfl (by kernel_rfl) (fun _ _ _ h => h) (Or.inl ⟨by rfl, ?_⟩) ?_ ?_
  rotate_left
  ·intro w'
   go_simp
   with_reducible rfl
  rotate_left
  ·simp only [Act.put, List.setIfInBounds_toArray, List.set_cons_zero, List.set_cons_succ, i64_w, i32_w]
   rfl
  refine pure_ (i := 10) (N := some 62) (v := ?_) (a' := ?_) #[true, true, true, true, true, true, true, true, true, true, true, false, false, false, false, false, false, false, false, false, false, false] rfl rfl (by kernel_rfl) (fun _ _ _ h => h) (Or.inl ⟨by rfl, ?_⟩) ?_ ?_
  rotate_left
  ·intro w'
   go_simp
   with_reducible rfl
  rotate_left
  ·simp only [Act.put, List.setIfInBounds_toArray, List.set_cons_zero, List.set_cons_succ, i64_w, i32_w]
   rfl
  refine pure_ (i := 11) (N := some 63) (v := ?_) (a' := ?_) #[true, true, true, true, true, true, true, true, true, true, true, true, false, false, false, false, false, false, false, false, false, false] rfl rfl (by kernel_rfl) (fun _ _ _ h => h) (Or.inl ⟨by rfl, ?_⟩) ?_ ?_
  rotate_left
  ·intro w'
   go_simp
   with_reducible rfl
  rotate_left
  ·simp only [Act.put, List.setIfInBounds_toArray, List.set_cons_zero, List.set_cons_succ, i64_w, i32_w]
   rfl
  refine pure_ (i := 12) (N := some 64) (v := ?_) (a' := ?_) #[true, true, true, true, true, true, true, true, true, true, true, true, true, false, false, false, false, false, false, false, false, false] rfl rfl (by kernel_rfl) (fun _ _ _ h => h) (Or.inl ⟨by rfl, ?_⟩) ?_ ?_
  rotate_left
  ·intro w'
   go_simp
   with_reducible rfl
  rotate_left
  ·simp only [Act.put, List.setIfInBounds_toArray, List.set_cons_zero, List.set_cons_succ, i64_w, i32_w]
   rfl
  refine take_ (i := 13) (N := some 65) (v := ?_) (a' := ?_) #[true, true, true, true, true, true, true, true, true, true, true, true, true, true, false, false, false, false, false, false, false, false] rfl rfl (by kernel_rfl) (fun _ _ _ h => h) (Or.inl ⟨by rfl, ?_⟩) hHeld ?_ ?_
  rotate_left
  ·intro w' hw'
   have cb0_ : w'.cell? ⟨b, 2, none⟩ = some (.int .i64 512) := (blk_cell hw'.row 2).trans rfl
   go_simp
   with_reducible rfl
  rotate_left
  ·simp only [Act.put, List.setIfInBounds_toArray, List.set_cons_zero, List.set_cons_succ, i64_w, i32_w]
   rfl
  refine pure_ (i := 14) (N := some 66) (v := ?_) (a' := ?_) #[true, true, true, true, true, true, true, true, true, true, true, true, true, true, true, false, false, false, false, false, false, false] rfl rfl (by kernel_rfl) (fun _ _ _ h => h) (Or.inl ⟨by rfl, ?_⟩) ?_ ?_
  rotate_left
  ·intro w'
   go_simp
   with_reducible rfl
  rotate_left
  ·simp only [Act.put, List.setIfInBounds_toArray, List.set_cons_zero, List.set_cons_succ, i64_w, i32_w]
   rfl
  refine pure_ (i := 16) (N := some 68) (v := ?_) (a' := ?_) #[true, true, true, true, true, true, true, true, true, true, true, true, true, true, true, false, true, false, false, false, false, false] rfl rfl (by kernel_rfl) (fun _ _ _ h => h) (Or.inl ⟨by rfl, ?_⟩) ?_ ?_
  rotate_left
  ·intro w'
   go_simp
   with_reducible rfl
  rotate_left
  ·simp only [Act.put, List.setIfInBounds_toArray, List.set_cons_zero, List.set_cons_succ, i64_w, i32_w]
   rfl
  refine take_ (i := 17) (N := some 69) (v := ?_) (a' := ?_) #[true, true, true, true, true, true, true, true, true, true, true, true, true, true, true, false, true, true, false, false, false, false] rfl rfl (by kernel_rfl) (fun _ _ _ h => h) (Or.inl ⟨by rfl, ?_⟩) hHeld ?_ ?_
  rotate_left
  ·intro w' hw'
   have cb0_ : w'.cell? ⟨b, 3, none⟩ = some (.int .i64 0) := (blk_cell hw'.row 3).trans rfl
   go_simp
   with_reducible rfl
  rotate_left
  ·simp only [Act.put, List.setIfInBounds_toArray, List.set_cons_zero, List.set_cons_succ, i64_w, i32_w]
   rfl
  refine one_ (i := 15) (N := some 67) #[true, true, true, true, true, true, true, true, true, true, true, true, true, true, true, true, true, true, false, false, false, false] rfl rfl (by kernel_rfl) (by decide) (fun K hK => ?_)
  refine goes_ Tryd.func16 (by kernel_rfl) rfl #[.int .i64 s0_0, .int .i64 (wrap64 (512 - wrap64 n)), .int .i64 512, .int .i64 1] (by rfl) rfl rfl (by simp only [List.map_toArray, List.map_cons, List.map_nil]; rfl) ?_
  refine (muldiv_Do.calls s0_0 _ 512 1 q _ Aq).mono ?_
  rintro e w' ⟨rfl, hb⟩
  refine ⟨_, rfl, ?_⟩
  have hN_ := hHeld.below hb
  refine hK.out _ _ hN_ (fun hHeld => ?_)
  clear hK K hN_ hb
  refine norm_ (a' := ?_) ?_ ?_
  rotate_left
  ·show Act.put _ (some 67) _ = _
   simp only [Act.put, List.setIfInBounds_toArray, List.set_cons_zero, List.set_cons_succ, i64_w, i32_w]
   rfl
  refine pure_ (i := 18) (N := some 70) (v := ?_) (a' := ?_) #[true, true, true, true, true, true, true, true, true, true, true, true, true, true, true, true, true, true, true, false, false, false] rfl rfl (by kernel_rfl) (fun _ _ _ h => h) (Or.inl ⟨by rfl, ?_⟩) ?_ ?_
  rotate_left
  ·intro w'
   go_simp
   with_reducible rfl
  rotate_left
  ·simp only [Act.put, List.setIfInBounds_toArray, List.set_cons_zero, List.set_cons_succ, i64_w, i32_w]
   rfl
  refine pure_ (i := 19) (N := some 71) (v := ?_) (a' := ?_) #[true, true, true, true, true, true, true, true, true, true, true, true, true, true, true, true, true, true, true, true, false, false] rfl rfl (by kernel_rfl) (fun _ _ _ h => h) (Or.inl ⟨by rfl, ?_⟩) ?_ ?_
  rotate_left
  ·intro w'
   go_simp
   with_reducible rfl
  rotate_left
  ·simp only [Act.put, List.setIfInBounds_toArray, List.set_cons_zero, List.set_cons_succ, i64_w, i32_w]
   rfl
  refine pure_ (i := 20) (N := some 72) (v := ?_) (a' := ?_) #[true, true, true, true, true, true, true, true, true, true, true, true, true, true, true, true, true, true, true, true, true, false] rfl rfl (by kernel_rfl) (fun _ _ _ h => h) (Or.inl ⟨by rfl, ?_⟩) ?_ ?_
  rotate_left
  ·intro w'
   go_simp
   with_reducible rfl
  rotate_left
  ·simp only [Act.put, List.setIfInBounds_toArray, List.set_cons_zero, List.set_cons_succ, i64_w, i32_w]
   rfl
  refine last_ (i := 21) (N := none) #[true, true, true, true, true, true, true, true, true, true, true, true, true, true, true, true, true, true, true, true, true, true] rfl rfl (by kernel_rfl) (by decide) (fun K hK => ?_)
  have hs0_ : w'.cell? ⟨g, 0, none⟩ = some (.int .i64 s0_0) := IsS42.cell_0 hHeld.st
  have hf0_ := IsS42.froz_0 hHeld.st
  refine skip_ (w1 := ?_) (by rfl) rfl ?_ ?_
  rotate_left
  ·go_simp
   rfl
  refine hK.out _ _ ?_
  refine done_ (by kernel_rfl) ?_
  clear hK K
  clear hs0_
  clear hf0_
  have h2 : IsS42 w0 (w'.setCell ⟨g, 0, none⟩ (.int .i64 (wrap64 q))) g (wrap64 q) s0_1 s0_2 true t := IsS42.set_0 hHeld.st _
  have hb2 := below_set hHeld.bel (IsS42.ge hHeld.st) (j := 0) (v := .int .i64 (wrap64 q))
  have hk2 := KeepBut.set_ hHeld.keep 0 (.int .i64 (wrap64 q))
  clear hHeld
  generalize w'.setCell ⟨g, 0, none⟩ (.int .i64 (wrap64 q)) = W5 at h2 hb2 hk2 ⊢
  try go_wp2
  have h3 : LK w0 w W5 g (wrap64 q) s0_1 s0_2 true t := ⟨h2, hb2, hk2⟩
  clear h2 hb2 hk2
  refine start_ (n := 17) (S := fun w' => LK w0 w w' g (wrap64 q) s0_1 s0_2 true t) (ds := [16]) #[false, false, false, false, false, false, false, false, false, false, false, false, false, false, false, false, false] (by kernel_rfl) rfl rfl h3.drew (fun hHeld => ?_)
  clear h3
  generalize W5.drew = W5 at hHeld ⊢
  refine pure_ (i := 0) (N := some 74) (v := ?_) (a' := ?_) #[true, false, false, false, false, false, false, false, false, false, false, false, false, false, false, false, false] rfl rfl (by kernel_rfl) (fun _ _ _ h => h) (Or.inl ⟨by rfl, ?_⟩) ?_ ?_
  rotate_left
  ·intro w'
   go_simp
   with_reducible rfl
  rotate_left
  ·simp only [Act.put, List.setIfInBounds_toArray, List.set_cons_zero, List.set_cons_succ, i64_w, i32_w]
   rfl
  refine pure_ (i := 1) (N := some 75) (v := ?_) (a' := ?_) #[true, true, false, false, false, false, false, false, false, false, false, false, false, false, false, false, false] rfl rfl (by kernel_rfl) (fun _ _ _ h => h) (Or.inl ⟨by rfl, ?_⟩) ?_ ?_
  rotate_left
  ·intro w'
   go_simp
   with_reducible rfl
  rotate_left
  ·simp only [Act.put, List.setIfInBounds_toArray, List.set_cons_zero, List.set_cons_succ, i64_w, i32_w]
   rfl
  refine pure_ (i := 2) (N := some 76) (v := ?_) (a' := ?_) #[true, true, true, false, false, false, false, false, false, false, false, false, false, false, false, false, false] rfl rfl (by kernel_rfl) (fun _ _ _ h => h) (Or.inl ⟨by rfl, ?_⟩) ?_ ?_
  rotate_left
  ·intro w'
   go_simp
   with_reducible rfl
  rotate_left
  ·simp only [Act.put, List.setIfInBounds_toArray, List.set_cons_zero, List.set_cons_succ, i64_w, i32_w]
   rfl
  refine pure_ (i := 3) (N := some 77) (v := ?_) (a' := ?_) #[true, true, true, true, false, false, false, false, false, false, false, false, false, false, false, false, false] rfl rfl (by kernel_rfl) (fun _ _ _ h => h) (Or.inl ⟨by rfl, ?_⟩) ?_ ?_
  rotate_left
  ·intro w'
   go_simp
   with_reducible rfl
  rotate_left
  ·simp only [Act.put, List.setIfInBounds_toArray, List.set_cons_zero, List.set_cons_succ, i64_w, i32_w]
   rfl
  refine take_ (i := 4) (N := some 78) (v := ?_) (a' := ?_) #[true, true, true, true, true, false, false, false, false, false, false, false, false, false, false, false, false] rfl rfl (by kernel_rfl) (fun _ _ _ h => h) (Or.inl ⟨by rfl, ?_⟩) hHeld ?_ ?_
  rotate_left
  ·intro w' hw'
   have cb0_ : w'.cell? ⟨g, 0, none⟩ = some (.int .i64 (wrap64 q)) := IsS42.cell_0 hw'.st
   go_simp
   with_reducible rfl
  rotate_left
  ·simp only [Act.put, List.setIfInBounds_toArray, List.set_cons_zero, List.set_cons_succ, i64_w, i32_w]
   rfl
  refine pure_ (i := 5) (N := some 79) (v := ?_) (a' := ?_) #[true, true, true, true, true, true, false, false, false, false, false, false, false, false, false, false, false] rfl rfl (by kernel_rfl) (fun _ _ _ h => h) (Or.inl ⟨by rfl, ?_⟩) ?_ ?_
  rotate_left
  ·intro w'
   go_simp
   with_reducible rfl
  rotate_left
  ·simp only [Act.put, List.setIfInBounds_toArray, List.set_cons_zero, List.set_cons_succ, i64_w, i32_w]
   rfl
  refine pure_ (i := 6) (N := some 80) (v := ?_) (a' := ?_) #[true, true, true, true, true, true, true, false, false, false, false, false, false, false, false, false, false] rfl rfl (by kernel_rfl) (fun _ _ _ h => h) (Or.inl ⟨by rfl, ?_⟩) ?_ ?_
  rotate_left
  ·intro w'
   go_simp
   with_reducible rfl
  rotate_left
  ·simp only [Act.put, List.setIfInBounds_toArray, List.set_cons_zero, List.set_cons_succ, i64_w, i32_w]
   rfl
  refine pure_ (i := 7) (N := some 81) (v := ?_) (a' := ?_) #[true, true, true, true, true, true, true, true, false, false, false, false, false, false, false, false, false] rfl rfl (by kernel_rfl) (fun _ _ _ h => h) (Or.inl ⟨by rfl, ?_⟩) ?_ ?_
  rotate_left
  ·intro w'
   go_simp
   with_reducible rfl
  rotate_left
  ·simp only [Act.put, List.setIfInBounds_toArray, List.set_cons_zero, List.set_cons_succ, i64_w, i32_w]
   rfl
  refine take_ (i := 8) (N := some 82) (v := ?_) (a' := ?_) #[true, true, true, true, true, true, true, true, true, false, false, false, false, false, false, false, false] rfl rfl (by kernel_rfl) (fun _ _ _ h => h) (Or.inl ⟨by rfl, ?_⟩) hHeld ?_ ?_
  rotate_left
  ·intro w' hw'
   have cb0_ : w'.cell? ⟨g, 1, none⟩ = some (.int .i64 s0_1) := IsS42.cell_1 hw'.st
   go_simp
   with_reducible rfl
  rotate_left
  ·simp only [Act.put, List.setIfInBounds_toArray, List.set_cons_zero, List.set_cons_succ, i64_w, i32_w]
   rfl
  refine pure_ (i := 9) (N := some 83) (v := ?_) (a' := ?_) #[true, true, true, true, true, true, true, true, true, true, false, false, false, false, false, false, false] rfl rfl (by kernel_rfl) (fun _ _ _ h => h) (Or.inl ⟨by rfl, ?_⟩) ?_ ?_
  rotate_left
  ·intro w'
   go_simp
   with_reducible rfl
  rotate_left
  ·simp only [Act.put, List.setIfInBounds_toArray, List.set_cons_zero, List.set_cons_succ, i64_w, i32_w]
   rfl
  refine pure_ (i := 10) (N := some 84) (v := ?_) (a' := ?_) #[true, true, true, true, true, true, true, true, true, true, true, false, false, false, false, false, false] rfl rfl (by kernel_rfl) (fun _ _ _ h => h) (Or.inl ⟨by rfl, ?_⟩) ?_ ?_
  rotate_left
  ·intro w'
   go_simp
   with_reducible rfl
  rotate_left
  ·simp only [Act.put, List.setIfInBounds_toArray, List.set_cons_zero, List.set_cons_succ, i64_w, i32_w]
   rfl
  refine pure_ (i := 11) (N := some 85) (v := ?_) (a' := ?_) #[true, true, true, true, true, true, true, true, true, true, true, true, false, false, false, false, false] rfl rfl (by kernel_rfl) (fun _ _ _ h => h) (Or.inl ⟨by rfl, ?_⟩) ?_ ?_
  rotate_left
  ·intro w'
   go_simp
   with_reducible rfl
  rotate_left
  ·simp only [Act.put, List.setIfInBounds_toArray, List.set_cons_zero, List.set_cons_succ, i64_w, i32_w]
   rfl
  refine take_ (i := 12) (N := some 86) (v := ?_) (a' := ?_) #[true, true, true, true, true, true, true, true, true, true, true, true, true, false, false, false, false] rfl rfl (by kernel_rfl) (fun _ _ _ h => h) (Or.inl ⟨by rfl, ?_⟩) hHeld ?_ ?_
  rotate_left
  ·intro w' hw'
   have cb0_ : w'.cell? ⟨g, 2, none⟩ = some (.int .i64 s0_2) := IsS42.cell_2 hw'.st
   go_simp
   with_reducible rfl
  rotate_left
  ·simp only [Act.put, List.setIfInBounds_toArray, List.set_cons_zero, List.set_cons_succ, i64_w, i32_w]
   rfl
  refine one_ (i := 13) (N := some 87) #[true, true, true, true, true, true, true, true, true, true, true, true, true, true, false, false, false] rfl rfl (by kernel_rfl) (by decide) (fun K hK => ?_)
  refine goes_ Tryd.func15 (by kernel_rfl) rfl #[.int .i64 (wrap64 q), .int .i64 s0_1, .int .i64 s0_2] (by rfl) rfl rfl (by simp only [List.map_toArray, List.map_cons, List.map_nil]; rfl) ?_
  with_reducible refine (sat_Clamp.calls (wrap64 q) s0_1 s0_2 t3 _ A3).mono ?_
  rintro e w' ⟨rfl, ⟨nd, rfl⟩⟩
  refine ⟨_, rfl, ?_⟩
  have hN_ := hHeld.drewN nd
  refine hK.out _ _ hN_ (fun hHeld => ?_)
  clear hK K hN_
  generalize W5.drewN nd = W5_ at hHeld ⊢
  refine norm_ (a' := ?_) ?_ ?_
  rotate_left
  ·show Act.put _ (some 87) _ = _
   simp only [Act.put, List.setIfInBounds_toArray, List.set_cons_zero, List.set_cons_succ, i64_w, i32_w]
   rfl
  refine pure_ (i := 14) (N := some 88) (v := ?_) (a' := ?_) #[true, true, true, true, true, true, true, true, true, true, true, true, true, true, true, false, false] rfl rfl (by kernel_rfl) (fun _ _ _ h => h) (Or.inl ⟨by rfl, ?_⟩) ?_ ?_
  rotate_left
  ·intro w'
   go_simp
   with_reducible rfl
  rotate_left
  ·simp only [Act.put, List.setIfInBounds_toArray, List.set_cons_zero, List.set_cons_succ, i64_w, i32_w]
   rfl
  refine pure_ (i := 15) (N := some 89) (v := ?_) (a' := ?_) #[true, true, true, true, true, true, true, true, true, true, true, true, true, true, true, true, false] rfl rfl (by kernel_rfl) (fun _ _ _ h => h) (Or.inl ⟨by rfl, ?_⟩) ?_ ?_
  rotate_left
  ·intro w'
   go_simp
   with_reducible rfl
  rotate_left
  ·simp only [Act.put, List.setIfInBounds_toArray, List.set_cons_zero, List.set_cons_succ, i64_w, i32_w]
   rfl
  refine last_ (i := 16) (N := none) #[true, true, true, true, true, true, true, true, true, true, true, true, true, true, true, true, true] rfl rfl (by kernel_rfl) (by decide) (fun K hK => ?_)
  have hs0_ : W5_.cell? ⟨g, 0, none⟩ = some (.int .i64 (wrap64 q)) := IsS42.cell_0 hHeld.st
  have hf0_ := IsS42.froz_0 hHeld.st
  refine skip_ (w1 := ?_) (by rfl) rfl ?_ ?_
  rotate_left
  ·go_simp
   rfl
  refine hK.out _ _ ?_
  refine done_ (by kernel_rfl) ?_
  clear hK K
  clear hs0_
  clear hf0_
  have h4 := IsS42.set_0 hHeld.st t3
  have hb4 := below_set hHeld.bel (IsS42.ge hHeld.st) (j := 0) (v := .int .i64 t3)
  have hk4 := KeepBut.set_ hHeld.keep 0 (.int .i64 t3)
  clear hHeld
  generalize W5_.setCell ⟨g, 0, none⟩ (.int .i64 t3) = W6 at h4 hb4 hk4 ⊢
  have hc0_ := IsS42.cell_0 h4
  go_wp2
  go_ret
  exact ⟨rfl, h4, hb4, hk4⟩
 ·subst c
  go_enter Tryd.func9, Tryd.ntmps9
  go_wp2_with (first | ((with_reducible refine gate_dst (N := 14) rfl ?_); refine goesL_ (some 14) rfl rfl Tryd.func15 (by kernel_rfl) rfl #[.int .i64 a2, .int .i64 0, .int .i64 1125899906842624] rfl (by (try simp only [List.map_toArray, List.map_cons, List.map_nil]); first | done | rfl) ?_; (with_reducible refine (sat_Clamp.calls a2 0 1125899906842624 t _ At).mono ?_); rintro e w' ⟨rfl, ⟨nd, rfl⟩⟩; refine ⟨_, rfl, ?_⟩; have hI1 := IsS42.drewN hI nd; have hB1 := pw_below_drewN hB nd; have hK1 := keep_drewN (KeepBut.refl w g none) nd; generalize World.drewN w nd = W1 at hI1 hB1 hK1 ⊢; have hc0_ : W1.cell? ⟨g, 0, none⟩ = some (.int .i64 s0_0) := IsS42.cell_0 hI1; have hf0_ := IsS42.froz_0 hI1; have hc1_ : W1.cell? ⟨g, 1, none⟩ = some (.int .i64 s0_1) := IsS42.cell_1 hI1; have hf1_ := IsS42.froz_1 hI1; have hc2_ : W1.cell? ⟨g, 2, none⟩ = some (.int .i64 s0_2) := IsS42.cell_2 hI1; have hf2_ := IsS42.froz_2 hI1; have hc3_ : W1.cell? ⟨g, 3, none⟩ = some (.bool true) := IsS42.cell_3 hI1; have hf3_ := IsS42.froz_3 hI1; have hc4_ : W1.cell? ⟨g, 4, none⟩ = some (.int .i64 s0_4) := IsS42.cell_4 hI1; have hf4_ := IsS42.froz_4 hI1) | ((with_reducible refine gate_dst (N := 40) rfl ?_); refine goesL_ (some 40) rfl rfl Tryd.func15 (by kernel_rfl) rfl #[.int .i64 a1, .int .i64 0, .int .i64 256] rfl (by (try simp only [List.map_toArray, List.map_cons, List.map_nil]); first | done | rfl) ?_; (with_reducible refine (sat_Clamp.calls a1 0 256 n _ An).mono ?_); rintro e w' ⟨rfl, ⟨nd, rfl⟩⟩; refine ⟨_, rfl, ?_⟩; have hI2 := IsS42.drewN (IsS42.set_4 (IsS42.set_3 hI1 true) t) nd; have hB2 := pw_below_drewN (below_set (below_set hB1 (IsS42.ge hI1) (j := 3) (v := .bool true)) (IsS42.ge hI1) (j := 4) (v := .int .i64 t)) nd; have hK2 := keep_drewN (KeepBut.set_ (KeepBut.set_ hK1 3 (.bool true)) 4 (.int .i64 t)) nd; clear hI1 hB1 hK1; clear hc0_ hf0_ hc1_ hf1_ hc2_ hf2_ hc3_ hf3_ hc4_ hf4_; generalize World.drewN ((W1.setCell ⟨g, 3, none⟩ (.bool true)).setCell ⟨g, 4, none⟩ (.int .i64 t)) nd = W2 at hI2 hB2 hK2 ⊢; have hc0_ : W2.cell? ⟨g, 0, none⟩ = some (.int .i64 s0_0) := IsS42.cell_0 hI2; have hf0_ := IsS42.froz_0 hI2; have hc1_ : W2.cell? ⟨g, 1, none⟩ = some (.int .i64 s0_1) := IsS42.cell_1 hI2; have hf1_ := IsS42.froz_1 hI2; have hc2_ : W2.cell? ⟨g, 2, none⟩ = some (.int .i64 s0_2) := IsS42.cell_2 hI2; have hf2_ := IsS42.froz_2 hI2; have hc3_ : W2.cell? ⟨g, 3, none⟩ = some (.bool true) := IsS42.cell_3 hI2; have hf3_ := IsS42.froz_3 hI2; have hc4_ : W2.cell? ⟨g, 4, none⟩ = some (.int .i64 t) := IsS42.cell_4 hI2; have hf4_ := IsS42.froz_4 hI2; have hG2 := hG.below hB2; obtain ⟨q0, q1, q2, q3, q4, q5, q6, q7, q8, q9, q10, q11, q12, q13, q14⟩ := hG2))
  refine wp_loop_rounds 4 ?_
  rw [rounds_succ]
  go_wp2
  rw [rounds_succ]
  go_wp2
  rw [rounds_succ]
  go_wp2
  refine namedG_ ?_
  intro W3 hW3
  have h1 : LH w0 w W3 g ((W2.alloc (.cells #[.int .i64 5, .int .i64 105, .int .i64 100, .int .i64 1000, .int .i64 0] 45)).alloc (.cells #[.int .i64 26, .int .i64 1, .int .i64 1, .int .i64 0, .int .i64 0] 45)).heap.size s0_0 s0_1 s0_2 true t 256 512 512 0 1 := by rw [hW3]; exact ⟨IsS42.alloc (IsS42.alloc (IsS42.alloc (hI2) _) _) _, below_alloc (below_alloc (below_alloc (hB2) _) _) _, keep_alloc (keep_alloc (keep_alloc (hK2) _) _) _, blk_new _ _⟩
  (try simp only [sizeG_] at h1 ⊢)
  clear hW3 hI2 hB2 hK2
  generalize W2.heap.size + 1 + 1 = b at h1 ⊢
  refine start_ (n := 22) (S := fun w' => LH w0 w w' g b s0_0 s0_1 s0_2 true t 256 512 512 0 1) (ds := [21]) #[false, false, false, false, false, false, false, false, false, false, false, false, false, false, false, false, false, false, false, false, false, false] (by kernel_rfl) rfl rfl h1.drew (fun hHeld => ?_)
  clear h1
  generalize W3.drew = W3 at hHeld ⊢
  refine pure_ (i := 0) (N := some 52) (v := ?_) (a' := ?_) #[true, false, false, false, false, false, false, false, false, false, false, false, false, false, false, false, false, false, false, false, false, false] rfl rfl (by kernel_rfl) (fun _ _ _ h => h) (Or.inl ⟨by rfl, ?_⟩) ?_ ?_
  rotate_left
  ·intro w'
   go_simp
   with_reducible rfl
  rotate_left
  ·simp only [Act.put, List.setIfInBounds_toArray, List.set_cons_zero, List.set_cons_succ, i64_w, i32_w]
   rfl
  refine pure_ (i := 1) (N := some 53) (v := ?_) (a' := ?_) #[true, true, false, false, false, false, false, false, false, false, false, false, false, false, false, false, false, false, false, false, false, false] rfl rfl (by kernel_rfl) (fun _ _ _ h => h) (Or.inl ⟨by rfl, ?_⟩) ?_ ?_
  rotate_left
  ·intro w'
   go_simp
   with_reducible rfl
  rotate_left
  ·simp only [Act.put, List.setIfInBounds_toArray, List.set_cons_zero, List.set_cons_succ, i64_w, i32_w]
   rfl
  refine pure_ (i := 2) (N := some 54) (v := ?_) (a' := ?_) #[true, true, true, false, false, false, false, false, false, false, false, false, false, false, false, false, false, false, false, false, false, false] rfl rfl (by kernel_rfl) (fun _ _ _ h => h) (Or.inl ⟨by rfl, ?_⟩) ?_ ?_
  rotate_left
  ·intro w'
   go_simp
   with_reducible rfl
  rotate_left
  ·simp only [Act.put, List.setIfInBounds_toArray, List.set_cons_zero, List.set_cons_succ, i64_w, i32_w]
   rfl
  refine pure_ (i := 3) (N := some 55) (v := ?_) (a' := ?_) #[true, true, true, true, false, false, false, false, false, false, false, false, false, false, false, false, false, false, false, false, false, false] rfl rfl (by kernel_rfl) (fun _ _ _ h => h) (Or.inl ⟨by rfl, ?_⟩) ?_ ?_
  rotate_left
  ·intro w'
   go_simp
   with_reducible rfl
  rotate_left
  ·simp only [Act.put, List.setIfInBounds_toArray, List.set_cons_zero, List.set_cons_succ, i64_w, i32_w]
   rfl
  refine take_ (i := 4) (N := some 56) (v := ?_) (a' := ?_) #[true, true, true, true, true, false, false, false, false, false, false, false, false, false, false, false, false, false, false, false, false, false] rfl rfl (by kernel_rfl) (fun _ _ _ h => h) (Or.inl ⟨by rfl, ?_⟩) hHeld ?_ ?_
  rotate_left
  ·intro w' hw'
   have cb0_ : w'.cell? ⟨g, 0, none⟩ = some (.int .i64 s0_0) := IsS42.cell_0 hw'.st
   go_simp
   with_reducible rfl
  rotate_left
  ·simp only [Act.put, List.setIfInBounds_toArray, List.set_cons_zero, List.set_cons_succ, i64_w, i32_w]
   rfl
  refine pure_ (i := 5) (N := some 57) (v := ?_) (a' := ?_) #[true, true, true, true, true, true, false, false, false, false, false, false, false, false, false, false, false, false, false, false, false, false] rfl rfl (by kernel_rfl) (fun _ _ _ h => h) (Or.inl ⟨by rfl, ?_⟩) ?_ ?_
  rotate_left
  ·intro w'
   go_simp
   with_reducible rfl
  rotate_left
  ·simp only [Act.put, List.setIfInBounds_toArray, List.set_cons_zero, List.set_cons_succ, i64_w, i32_w]
   rfl
  refine take_ (i := 6) (N := some 58) (v := ?_) (a' := ?_) #[true, true, true, true, true, true, true, false, false, false, false, false, false, false, false, false, false, false, false, false, false, false] rfl rfl (by kernel_rfl) (fun _ _ _ h => h) (Or.inl ⟨by rfl, ?_⟩) hHeld ?_ ?_
  rotate_left
  ·intro w' hw'
   have cb0_ : w'.cell? ⟨b, 1, none⟩ = some (.int .i64 512) := (blk_cell hw'.row 1).trans rfl
   go_simp
   with_reducible rfl
  rotate_left
  ·simp only [Act.put, List.setIfInBounds_toArray, List.set_cons_zero, List.set_cons_succ, i64_w, i32_w]
   rfl
  refine pure_ (i := 7) (N := some 59) (v := ?_) (a' := ?_) #[true, true, true, true, true, true, true, true, false, false, false, false, false, false, false, false, false, false, false, false, false, false] rfl rfl (by kernel_rfl) (fun _ _ _ h => h) (Or.inl ⟨by rfl, ?_⟩) ?_ ?_
  rotate_left
  ·intro w'
   go_simp
   with_reducible rfl
  rotate_left
  ·simp only [Act.put, List.setIfInBounds_toArray, List.set_cons_zero, List.set_cons_succ, i64_w, i32_w]
   rfl
  refine take_ (i := 8) (N := some 60) (v := ?_) (a' := ?_) #[true, true, true, true, true, true, true, true, true, false, false, false, false, false, false, false, false, false, false, false, false, false] rfl rfl (by kernel_rfl) (fun _ _ _ h => h) (Or.inl ⟨by rfl, ?_⟩) hHeld ?_ ?_
  rotate_left
  ·intro w' hw'
   have cb0_ : w'.cell? ⟨b, 4, none⟩ = some (.int .i64 1) := (blk_cell hw'.row 4).trans rfl
   go_simp
   with_reducible rfl
  rotate_left
  ·simp only [Act.put, List.setIfInBounds_toArray, List.set_cons_zero, List.set_cons_succ, i64_w, i32_w]
   rfl
  refine pure_ (i := 9) (N := some 61) (v := ?_) (a' := ?_) #[true, true, true, true, true, true, true, true, true, true, false, false, false, false, false, false, false, false, false, false, false, false] rfl rfl (by kernel_rfl) (fun _ _ _ h => h) (Or.inl ⟨by rfl, ?_⟩) ?_ ?_
  rotate_left
  ·intro w'
   go_simp
   with_reducible rfl
  rotate_left
  ·simp only [Act.put, List.setIfInBounds_toArray, List.set_cons_zero, List.set_cons_succ, i64_w, i32_w]
   rfl
  refine pure_ (i := 10) (N := some 62) (v := ?_) (a' := ?_) #[true, true, true, true, true, true, true, true, true, true, true, false, false, false, false, false, false, false, false, false, false, false] rfl rfl (by kernel_rfl) (fun _ _ _ h => h) (Or.inl ⟨by rfl, ?_⟩) ?_ ?_
  rotate_left
  ·intro w'
   go_simp
   with_reducible rfl
  rotate_left
  ·simp only [Act.put, List.setIfInBounds_toArray, List.set_cons_zero, List.set_cons_succ, i64_w, i32_w]
   rfl
  refine pure_ (i := 11) (N := some 63) (v := ?_) (a' := ?_) #[true, true, true, true, true, true, true, true, true, true, true, true, false, false, false, false, false, false, false, false, false, false] rfl rfl (by kernel_rfl) (fun _ _ _ h => h) (Or.inl ⟨by rfl, ?_⟩) ?_ ?_
  rotate_left
  ·intro w'
   go_simp
   with_reducible rfl
  rotate_left
  ·simp only [Act.put, List.setIfInBounds_toArray, List.set_cons_zero, List.set_cons_succ, i64_w, i32_w]
   rfl
  refine pure_ (i := 12) (N := some 64) (v := ?_) (a' := ?_) #[true, true, true, true, true, true, true, true, true, true, true, true, true, false, false, false, false, false, false, false, false, false] rfl rfl (by kernel_rfl) (fun _ _ _ h => h) (Or.inl ⟨by rfl, ?_⟩) ?_ ?_
  rotate_left
  ·intro w'
   go_simp
   with_reducible rfl
  rotate_left
  ·simp only [Act.put, List.setIfInBounds_toArray, List.set_cons_zero, List.set_cons_succ, i64_w, i32_w]
   rfl
  refine take_ (i := 13) (N := some 65) (v := ?_) (a' := ?_) #[true, true, true, true, true, true, true, true, true, true, true, true, true, true, false, false, false, false, false, false, false, false] rfl rfl (by kernel_rfl) (fun _ _ _ h => h) (Or.inl ⟨by rfl, ?_⟩) hHeld ?_ ?_
  rotate_left
  ·intro w' hw'
   have cb0_ : w'.cell? ⟨b, 2, none⟩ = some (.int .i64 512) := (blk_cell hw'.row 2).trans rfl
   go_simp
   with_reducible rfl
  rotate_left
  ·simp only [Act.put, List.setIfInBounds_toArray, List.set_cons_zero, List.set_cons_succ, i64_w, i32_w]
   rfl
  refine pure_ (i := 14) (N := some 66) (v := ?_) (a' := ?_) #[true, true, true, true, true, true, true, true, true, true, true, true, true, true, true, false, false, false, false, false, false, false] rfl rfl (by kernel_rfl) (fun _ _ _ h => h) (Or.inl ⟨by rfl, ?_⟩) ?_ ?_
  rotate_left
  ·intro w'
   go_simp
   with_reducible rfl
  rotate_left
  ·simp only [Act.put, List.setIfInBounds_toArray, List.set_cons_zero, List.set_cons_succ, i64_w, i32_w]
   rfl
  refine pure_ (i := 16) (N := some 68) (v := ?_) (a' := ?_) #[true, true, true, true, true, true, true, true, true, true, true, true, true, true, true, false, true, false, false, false, false, false] rfl rfl (by kernel_rfl) (fun _ _ _ h => h) (Or.inl ⟨by rfl, ?_⟩) ?_ ?_
  rotate_left
  ·intro w'
   go_simp
   with_reducible rfl
  rotate_left
  ·simp only [Act.put, List.setIfInBounds_toArray, List.set_cons_zero, List.set_cons_succ, i64_w, i32_w]
   rfl
  refine take_ (i := 17) (N := some 69) (v := ?_) (a' := ?_) #[true, true, true, true, true, true, true, true, true, true, true, true, true, true, true, false, true, true, false, false, false, false] rfl rfl (by kernel_rfl) (fun _ _ _ h => h) (Or.inl ⟨by rfl, ?_⟩) hHeld ?_ ?_
  rotate_left
  ·intro w' hw'
   have cb0_ : w'.cell? ⟨b, 3, none⟩ = some (.int .i64 0) := (blk_cell hw'.row 3).trans rfl
   go_simp
   with_reducible rfl
  rotate_left
  ·simp only [Act.put, List.setIfInBounds_toArray, List.set_cons_zero, List.set_cons_succ, i64_w, i32_w]
   rfl
  refine one_ (i := 15) (N := some 67) #[true, true, true, true, true, true, true, true, true, true, true, true, true, true, true, true, true, true, false, false, false, false] rfl rfl (by kernel_rfl) (by decide) (fun K hK => ?_)
  refine goes_ Tryd.func16 (by kernel_rfl) rfl #[.int .i64 s0_0, .int .i64 (wrap64 (512 - wrap64 n)), .int .i64 512, .int .i64 1] (by rfl) rfl rfl (by simp only [List.map_toArray, List.map_cons, List.map_nil]; rfl) ?_
  refine (muldiv_Do.calls s0_0 _ 512 1 q _ Aq).mono ?_
  rintro e w' ⟨rfl, hb⟩
  refine ⟨_, rfl, ?_⟩
  have hN_ := hHeld.below hb
  refine hK.out _ _ hN_ (fun hHeld => ?_)
  clear hK K hN_ hb
  refine norm_ (a' := ?_) ?_ ?_
  rotate_left
  ·show Act.put _ (some 67) _ = _
   simp only [Act.put, List.setIfInBounds_toArray, List.set_cons_zero, List.set_cons_succ, i64_w, i32_w]
   rfl
  refine pure_ (i := 18) (N := some 70) (v := ?_) (a' := ?_) #[true, true, true, true, true, true, true, true, true, true, true, true, true, true, true, true, true, true, true, false, false, false] rfl rfl (by kernel_rfl) (fun _ _ _ h => h) (Or.inl ⟨by rfl, ?_⟩) ?_ ?_
  rotate_left
  ·intro w'
   go_simp
   with_reducible rfl
  rotate_left
  ·simp only [Act.put, List.setIfInBounds_toArray, List.set_cons_zero, List.set_cons_succ, i64_w, i32_w]
   rfl
  refine pure_ (i := 19) (N := some 71) (v := ?_) (a' := ?_) #[true, true, true, true, true, true, true, true, true, true, true, true, true, true, true, true, true, true, true, true, false, false] rfl rfl (by kernel_rfl) (fun _ _ _ h => h) (Or.inl ⟨by rfl, ?_⟩) ?_ ?_
  rotate_left
  ·intro w'
   go_simp
   with_reducible rfl
  rotate_left
  ·simp only [Act.put, List.setIfInBounds_toArray, List.set_cons_zero, List.set_cons_succ, i64_w, i32_w]
   rfl
  refine pure_ (i := 20) (N := some 72) (v := ?_) (a' := ?_) #[true, true, true, true, true, true, true, true, true, true, true, true, true, true, true, true, true, true, true, true, true, false] rfl rfl (by kernel_rfl) (fun _ _ _ h => h) (Or.inl ⟨by rfl, ?_⟩) ?_ ?_
  rotate_left
  ·intro w'
   go_simp
   with_reducible rfl
  rotate_left
  ·simp only [Act.put, List.setIfInBounds_toArray, List.set_cons_zero, List.set_cons_succ, i64_w, i32_w]
   rfl
  refine last_ (i := 21) (N := none) #[true, true, true, true, true, true, true, true, true, true, true, true, true, true, true, true, true, true, true, true, true, true] rfl rfl (by kernel_rfl) (by decide) (fun K hK => ?_)
  have hs0_ : w'.cell? ⟨g, 0, none⟩ = some (.int .i64 s0_0) := IsS42.cell_0 hHeld.st
  have hf0_ := IsS42.froz_0 hHeld.st
  refine skip_ (w1 := ?_) (by rfl) rfl ?_ ?_
  rotate_left
  ·go_simp
   rfl
  refine hK.out _ _ ?_
  refine done_ (by kernel_rfl) ?_
  clear hK K
  clear hs0_
  clear hf0_
  have h2 : IsS42 w0 (w'.setCell ⟨g, 0, none⟩ (.int .i64 (wrap64 q))) g (wrap64 q) s0_1 s0_2 true t := IsS42.set_0 hHeld.st _
  have hb2 := below_set hHeld.bel (IsS42.ge hHeld.st) (j := 0) (v := .int .i64 (wrap64 q))
  have hk2 := KeepBut.set_ hHeld.keep 0 (.int .i64 (wrap64 q))
  clear hHeld
  generalize w'.setCell ⟨g, 0, none⟩ (.int .i64 (wrap64 q)) = W5 at h2 hb2 hk2 ⊢
  try go_wp2
  have h3 : LK w0 w W5 g (wrap64 q) s0_1 s0_2 true t := ⟨h2, hb2, hk2⟩
  clear h2 hb2 hk2
  refine start_ (n := 17) (S := fun w' => LK w0 w w' g (wrap64 q) s0_1 s0_2 true t) (ds := [16]) #[false, false, false, false, false, false, false, false, false, false, false, false, false, false, false, false, false] (by kernel_rfl) rfl rfl h3.drew (fun hHeld => ?_)
  clear h3
  generalize W5.drew = W5 at hHeld ⊢
  refine pure_ (i := 0) (N := some 74) (v := ?_) (a' := ?_) #[true, false, false, false, false, false, false, false, false, false, false, false, false, false, false, false, false] rfl rfl (by kernel_rfl) (fun _ _ _ h => h) (Or.inl ⟨by rfl, ?_⟩) ?_ ?_
  rotate_left
  ·intro w'
   go_simp
   with_reducible rfl
  rotate_left
  ·simp only [Act.put, List.setIfInBounds_toArray, List.set_cons_zero, List.set_cons_succ, i64_w, i32_w]
   rfl
  refine pure_ (i := 1) (N := some 75) (v := ?_) (a' := ?_) #[true, true, false, false, false, false, false, false, false, false, false, false, false, false, false, false, false] rfl rfl (by kernel_rfl) (fun _ _ _ h => h) (Or.inl ⟨by rfl, ?_⟩) ?_ ?_
  rotate_left
  ·intro w'
   go_simp
   with_reducible rfl
  rotate_left
  ·simp only [Act.put, List.setIfInBounds_toArray, List.set_cons_zero, List.set_cons_succ, i64_w, i32_w]
   rfl
  refine pure_ (i := 2) (N := some 76) (v := ?_) (a' := ?_) #[true, true, true, false, false, false, false, false, false, false, false, false, false, false, false, false, false] rfl rfl (by kernel_rfl) (fun _ _ _ h => h) (Or.inl ⟨by rfl, ?_⟩) ?_ ?_
  rotate_left
  ·intro w'
   go_simp
   with_reducible rfl
  rotate_left
  ·simp only [Act.put, List.setIfInBounds_toArray, List.set_cons_zero, List.set_cons_succ, i64_w, i32_w]
   rfl
  refine pure_ (i := 3) (N := some 77) (v := ?_) (a' := ?_) #[true, true, true, true, false, false, false, false, false, false, false, false, false, false, false, false, false] rfl rfl (by kernel_rfl) (fun _ _ _ h => h) (Or.inl ⟨by rfl, ?_⟩) ?_ ?_
  rotate_left
  ·intro w'
   go_simp
   with_reducible rfl
  rotate_left
  ·simp only [Act.put, List.setIfInBounds_toArray, List.set_cons_zero, List.set_cons_succ, i64_w, i32_w]
   rfl
  refine take_ (i := 4) (N := some 78) (v := ?_) (a' := ?_) #[true, true, true, true, true, false, false, false, false, false, false, false, false, false, false, false, false] rfl rfl (by kernel_rfl) (fun _ _ _ h => h) (Or.inl ⟨by rfl, ?_⟩) hHeld ?_ ?_
  rotate_left
  ·intro w' hw'
   have cb0_ : w'.cell? ⟨g, 0, none⟩ = some (.int .i64 (wrap64 q)) := IsS42.cell_0 hw'.st
   go_simp
   with_reducible rfl
  rotate_left
  ·simp only [Act.put, List.setIfInBounds_toArray, List.set_cons_zero, List.set_cons_succ, i64_w, i32_w]
   rfl
  refine pure_ (i := 5) (N := some 79) (v := ?_) (a' := ?_) #[true, true, true, true, true, true, false, false, false, false, false, false, false, false, false, false, false] rfl rfl (by kernel_rfl) (fun _ _ _ h => h) (Or.inl ⟨by rfl, ?_⟩) ?_ ?_
  rotate_left
  ·intro w'
   go_simp
   with_reducible rfl
  rotate_left
  ·simp only [Act.put, List.setIfInBounds_toArray, List.set_cons_zero, List.set_cons_succ, i64_w, i32_w]
   rfl
  refine pure_ (i := 6) (N := some 80) (v := ?_) (a' := ?_) #[true, true, true, true, true, true, true, false, false, false, false, false, false, false, false, false, false] rfl rfl (by kernel_rfl) (fun _ _ _ h => h) (Or.inl ⟨by rfl, ?_⟩) ?_ ?_
  rotate_left
  ·intro w'
   go_simp
   with_reducible rfl
  rotate_left
  ·simp only [Act.put, List.setIfInBounds_toArray, List.set_cons_zero, List.set_cons_succ, i64_w, i32_w]
   rfl
  refine pure_ (i := 7) (N := some 81) (v := ?_) (a' := ?_) #[true, true, true, true, true, true, true, true, false, false, false, false, false, false, false, false, false] rfl rfl (by kernel_rfl) (fun _ _ _ h => h) (Or.inl ⟨by rfl, ?_⟩) ?_ ?_
  rotate_left
  ·intro w'
   go_simp
   with_reducible rfl
  rotate_left
  ·simp only [Act.put, List.setIfInBounds_toArray, List.set_cons_zero, List.set_cons_succ, i64_w, i32_w]
   rfl
  refine take_ (i := 8) (N := some 82) (v := ?_) (a' := ?_) #[true, true, true, true, true, true, true, true, true, false, false, false, false, false, false, false, false] rfl rfl (by kernel_rfl) (fun _ _ _ h => h) (Or.inl ⟨by rfl, ?_⟩) hHeld ?_ ?_
  rotate_left
  ·intro w' hw'
   have cb0_ : w'.cell? ⟨g, 1, none⟩ = some (.int .i64 s0_1) := IsS42.cell_1 hw'.st
   go_simp
   with_reducible rfl
  rotate_left
  ·simp only [Act.put, List.setIfInBounds_toArray, List.set_cons_zero, List.set_cons_succ, i64_w, i32_w]
   rfl
  refine pure_ (i := 9) (N := some 83) (v := ?_) (a' := ?_) #[true, true, true, true, true, true, true, true, true, true, false, false, false, false, false, false, false] rfl rfl (by kernel_rfl) (fun _ _ _ h => h) (Or.inl ⟨by rfl, ?_⟩) ?_ ?_
  rotate_left
  ·intro w'
   go_simp
   with_reducible rfl
  rotate_left
  ·simp only [Act.put, List.setIfInBounds_toArray, List.set_cons_zero, List.set_cons_succ, i64_w, i32_w]
   rfl
  refine pure_ (i := 10) (N := some 84) (v := ?_) (a' := ?_) #[true, true, true, true, true, true, true, true, true, true, true, false, false, false, false, false, false] rfl rfl (by kernel_rfl) (fun _ _ _ h => h) (Or.inl ⟨by rfl, ?_⟩) ?_ ?_
  rotate_left
  ·intro w'
   go_simp
   with_reducible rfl
  rotate_left
  ·simp only [Act.put, List.setIfInBounds_toArray, List.set_cons_zero, List.set_cons_succ, i64_w, i32_w]
   rfl
  refine pure_ (i := 11) (N := some 85) (v := ?_) (a' := ?_) #[true, true, true, true, true, true, true, true, true, true, true, true, false, false, false, false, false] rfl rfl (by kernel_rfl) (fun _ _ _ h => h) (Or.inl ⟨by rfl, ?_⟩) ?_ ?_
  rotate_left
  ·intro w'
   go_simp
   with_reducible rfl
  rotate_left
  ·simp only [Act.put, List.setIfInBounds_toArray, List.set_cons_zero, List.set_cons_succ, i64_w, i32_w]
   rfl
  refine take_ (i := 12) (N := some 86) (v := ?_) (a' := ?_) #[true, true, true, true, true, true, true, true, true, true, true, true, true, false, false, false, false] rfl rfl (by kernel_rfl) (fun _ _ _ h => h) (Or.inl ⟨by rfl, ?_⟩) hHeld ?_ ?_
  rotate_left
  ·intro w' hw'
   have cb0_ : w'.cell? ⟨g, 2, none⟩ = some (.int .i64 s0_2) := IsS42.cell_2 hw'.st
   go_simp
   with_reducible rfl
  rotate_left
  ·simp only [Act.put, List.setIfInBounds_toArray, List.set_cons_zero, List.set_cons_succ, i64_w, i32_w]
   rfl
  refine one_ (i := 13) (N := some 87) #[true, true, true, true, true, true, true, true, true, true, true, true, true, true, false, false, false] rfl rfl (by kernel_rfl) (by decide) (fun K hK => ?_)
  refine goes_ Tryd.func15 (by kernel_rfl) rfl #[.int .i64 (wrap64 q), .int .i64 s0_1, .int .i64 s0_2] (by rfl) rfl rfl (by simp only [List.map_toArray, List.map_cons, List.map_nil]; rfl) ?_
  with_reducible refine (sat_Clamp.calls (wrap64 q) s0_1 s0_2 t3 _ A3).mono ?_
  rintro e w' ⟨rfl, ⟨nd, rfl⟩⟩
  refine ⟨_, rfl, ?_⟩
  have hN_ := hHeld.drewN nd
  refine hK.out _ _ hN_ (fun hHeld => ?_)
  clear hK K hN_
  generalize W5.drewN nd = W5_ at hHeld ⊢
  refine norm_ (a' := ?_) ?_ ?_
  rotate_left
  ·show Act.put _ (some 87) _ = _
   simp only [Act.put, List.setIfInBounds_toArray, List.set_cons_zero, List.set_cons_succ, i64_w, i32_w]
   rfl
  refine pure_ (i := 14) (N := some 88) (v := ?_) (a' := ?_) #[true, true, true, true, true, true, true, true, true, true, true, true, true, true, true, false, false] rfl rfl (by kernel_rfl) (fun _ _ _ h => h) (Or.inl ⟨by rfl, ?_⟩) ?_ ?_
  rotate_left
  ·intro w'
   go_simp
   with_reducible rfl
  rotate_left
  ·simp only [Act.put, List.setIfInBounds_toArray, List.set_cons_zero, List.set_cons_succ, i64_w, i32_w]
   rfl
  refine pure_ (i := 15) (N := some 89) (v := ?_) (a' := ?_) #[true, true, true, true, true, true, true, true, true, true, true, true, true, true, true, true, false] rfl rfl (by kernel_rfl) (fun _ _ _ h => h) (Or.inl ⟨by rfl, ?_⟩) ?_ ?_
  rotate_left
  ·intro w'
   go_simp
   with_reducible rfl
  rotate_left
  ·simp only [Act.put, List.setIfInBounds_toArray, List.set_cons_zero, List.set_cons_succ, i64_w, i32_w]
   rfl
  refine last_ (i := 16) (N := none) #[true, true, true, true, true, true, true, true, true, true, true, true, true, true, true, true, true] rfl rfl (by kernel_rfl) (by decide) (fun K hK => ?_)
  have hs0_ : W5_.cell? ⟨g, 0, none⟩ = some (.int .i64 (wrap64 q)) := IsS42.cell_0 hHeld.st
  have hf0_ := IsS42.froz_0 hHeld.st
  refine skip_ (w1 := ?_) (by rfl) rfl ?_ ?_
  rotate_left
  ·go_simp
   rfl
  refine hK.out _ _ ?_
  refine done_ (by kernel_rfl) ?_
  clear hK K
  clear hs0_
  clear hf0_
  have h4 := IsS42.set_0 hHeld.st t3
  have hb4 := below_set hHeld.bel (IsS42.ge hHeld.st) (j := 0) (v := .int .i64 t3)
  have hk4 := KeepBut.set_ hHeld.keep 0 (.int .i64 t3)
  clear hHeld
  generalize W5_.setCell ⟨g, 0, none⟩ (.int .i64 t3) = W6 at h4 hb4 hk4 ⊢
  have hc0_ := IsS42.cell_0 h4
  go_wp2
  go_ret
  exact ⟨rfl, h4, hb4, hk4⟩
set_option maxHeartbeats 8000000 in
set_option maxRecDepth 100000 in
theorem lossy_upds (g : Nat) (s0_0 s0_1 s0_2 : Int) (s0_3 : Bool) (s0_4 a1 a2 t : Int) (w0 w : World) (hI : IsS42 w0 w g s0_0 s0_1 s0_2 s0_3 s0_4) (hB : Below w0.heap.size w0 w) (hG : GL w0) (At : sat_Clamp.f a2 0 1125899906842624 = some t) (c : s0_3 = true) (hc : decide (wrap64 (t - s0_4) < 200000) = true) :
  Calls Tryd.prog 9 #[.pointer (some ⟨g, 0, none⟩), .int .i64 a1, .int .i64 a2] w fun e w' => e = .returned (.int .i64 s0_0) ∧ IsS42 w0 w' g s0_0 s0_1 s0_2 true s0_4 ∧ Below w0.heap.size w0 w' ∧ KeepBut w w' g none := by
 have hpn : ∀ (a_ : Addr) (W_ : World), (Go.binOp .eql 24 (.pointer (some a_)) (.pointer none)).run Tryd.prog W_ = .ok (.bool false) W_ := fun _ _ => by kernel_rfl
 subst c
 go_enter Tryd.func9, Tryd.ntmps9
 go_wp2_with (first | ((with_reducible refine gate_dst (N := 14) rfl ?_); refine goesL_ (some 14) rfl rfl Tryd.func15 (by kernel_rfl) rfl #[.int .i64 a2, .int .i64 0, .int .i64 1125899906842624] rfl (by (try simp only [List.map_toArray, List.map_cons, List.map_nil]); first | done | rfl) ?_; (with_reducible refine (sat_Clamp.calls a2 0 1125899906842624 t _ At).mono ?_); rintro e w' ⟨rfl, ⟨nd, rfl⟩⟩; refine ⟨_, rfl, ?_⟩; have hI1 := IsS42.drewN hI nd; have hB1 := pw_below_drewN hB nd; have hK1 := keep_drewN (KeepBut.refl w g none) nd; generalize World.drewN w nd = W1 at hI1 hB1 hK1 ⊢; have hc0_ : W1.cell? ⟨g, 0, none⟩ = some (.int .i64 s0_0) := IsS42.cell_0 hI1; have hf0_ := IsS42.froz_0 hI1; have hc1_ : W1.cell? ⟨g, 1, none⟩ = some (.int .i64 s0_1) := IsS42.cell_1 hI1; have hf1_ := IsS42.froz_1 hI1; have hc2_ : W1.cell? ⟨g, 2, none⟩ = some (.int .i64 s0_2) := IsS42.cell_2 hI1; have hf2_ := IsS42.froz_2 hI1; have hc3_ : W1.cell? ⟨g, 3, none⟩ = some (.bool true) := IsS42.cell_3 hI1; have hf3_ := IsS42.froz_3 hI1; have hc4_ : W1.cell? ⟨g, 4, none⟩ = some (.int .i64 s0_4) := IsS42.cell_4 hI1; have hf4_ := IsS42.froz_4 hI1))
 go_ret
 exact ⟨rfl, hI1, hB1, hK1⟩
theorem clamp_le {a n : Int} (h : sat_Clamp.f a 0 256 = some n) : n ≤ 256 := by
 unfold sat_Clamp.f at h
 repeat' split at h
 all_goals (obtain rfl := Option.some.inj h; omega)
theorem lossy_Lossy_Update.calls (g : Nat) (s0_0 : Int) (s0_1 : Int) (s0_2 : Int) (s0_3 : Bool) (s0_4 : Int) (a1 : Int) (a2 : Int) (r1 : Int) (r2 : Int) (r3 : Int) (r4 : Int) (r5 : Bool) (r6 : Int) (w0 w : World) (hI : IsS42 w0 w g s0_0 s0_1 s0_2 s0_3 s0_4) (hB : Below w0.heap.size w0 w) (hG : GL w0) (h : lossy_Lossy_Update.f s0_0 s0_1 s0_2 s0_3 s0_4 a1 a2 = some (r1, r2, r3, r4, r5, r6)) :
  Calls Tryd.prog 9 #[.pointer (some ⟨g, 0, none⟩), .int .i64 a1, .int .i64 a2] w fun e w' => e = .returned (.int .i64 r1) ∧ IsS42 w0 w' g r2 r3 r4 r5 r6 ∧ Below w0.heap.size w0 w' ∧ KeepBut w w' g none := by
 unfold lossy_Lossy_Update.f at h
 obtain ⟨t, At, h⟩ := Option.bind_eq_some_iff.mp h
 by_cases e : s0_3 = true ∧ wrap64 (t - s0_4) < 200000
 ·rw [if_pos e] at h
  simp only [Option.some.injEq, Prod.mk.injEq] at h
  obtain ⟨rfl, rfl, rfl, rfl, rfl, rfl⟩ := h
  obtain ⟨e1, e2⟩ := e
  subst e1
  exact lossy_upds g _ _ _ true _ a1 a2 t w0 w hI hB hG At rfl (decide_eq_true e2)
 rw [if_neg e] at h
 have c : s0_3 = false ∨ s0_3 = true ∧ decide (wrap64 (t - s0_4) < 200000) = false := by
  cases s0_3
  ·exact .inl rfl
  ·exact .inr ⟨rfl, decide_eq_false fun h_ => e ⟨rfl, h_⟩⟩
 obtain ⟨n, An, h⟩ := Option.bind_eq_some_iff.mp h
 obtain ⟨q, Aq, h⟩ := Option.bind_eq_some_iff.mp h
 obtain ⟨t3, A3, h⟩ := Option.bind_eq_some_iff.mp h
 simp only [Option.some.injEq, Prod.mk.injEq] at h
 obtain ⟨rfl, rfl, rfl, rfl, rfl, rfl⟩ := h
 have hn := clamp_le An
 unfold lrow at Aq
 by_cases n1 : n ≤ 5
 ·rw [if_pos n1] at Aq
  obtain ⟨u, Au, Aq⟩ := Option.bind_eq_some_iff.mp Aq
  obtain rfl := Option.some.inj Aq
  exact lossy_upd0 g _ _ _ s0_3 s0_4 a1 a2 n t w0 w hI hB hG u Au t3 A3 At An n1 hn c
 rw [if_neg n1] at Aq
 by_cases n2 : n ≤ 26
 ·rw [if_pos n2] at Aq
  obtain ⟨u, Au, Aq⟩ := Option.bind_eq_some_iff.mp Aq
  obtain rfl := Option.some.inj Aq
  exact lossy_upd1 g _ _ _ s0_3 s0_4 a1 a2 n t w0 w hI hB hG u Au t3 A3 At An n1 n2 hn c
 rw [if_neg n2] at Aq
 obtain ⟨u, Au, Aq⟩ := Option.bind_eq_some_iff.mp Aq
 obtain rfl := Option.some.inj Aq
 exact lossy_upd2 g _ _ _ s0_3 s0_4 a1 a2 n t w0 w hI hB hG u Au t3 A3 At An n1 n2 hn c
set_option maxHeartbeats 8000000 in
set_option maxRecDepth 100000 in
theorem lossy_Lossy_Update.nilrecv.calls (a1 : Int) (a2 : Int) (r : Int) (w : World) (h : lossy_Lossy_Update.nilrecv.f a1 a2 = some r) :
  Calls Tryd.prog 9 #[.pointer none, .int .i64 a1, .int .i64 a2] w fun e w' => e = .returned (.int .i64 r) ∧ Below w.heap.size w w' := by
 have hnn_ : ∀ (W_ : World), (Go.binOp .eql 24 (.pointer none) (.pointer none)).run Tryd.prog W_ = .ok (.bool true) W_ := fun _ => by kernel_rfl
 obtain rfl := Option.some.inj h
 go_enter Tryd.func9, Tryd.ntmps9
 go_wp2
 go_ret
 exact ⟨rfl, by repeat (first | exact Below.refl _ _ | apply below_alloc)⟩
end Go.Proofs.YtkfkbebpcmmnfaaDoor.P
end

section
namespace Go.Proofs.YtkfkbebpcmmnfaaDoor.P
open Go.RowKit Go.Proofs.YtkfkbebpcmmnfaaDoorW.PrintWords Go.Proofs.YtkfkbebpcmmnfaaDoorW.PrintLast Go.Proofs.YtkfkbebpcmmnfaaDoorW.PrintMore
attribute [local go_sem] max2_int min2_int max_two min_two max_three min_three max_four min_four   -- for this text's walks alone
set_option linter.unusedVariables false
set_option linter.unusedSimpArgs false
def flywheellaw20_wakes.f  : Option (Bool) := if (lossy_New.made.f 1000000 1000 5000000).isSome = true then ((lossy_New.made.f 1000000 1000 5000000).bind fun bt119 => (if bt119.2.2.2.2.2 = 0 then ((lossy_Lossy_Update.f bt119.1 bt119.2.1 bt119.2.2.1 bt119.2.2.2.1 bt119.2.2.2.2.1 128 0).bind fun bt126 => (if bt126.1 = 750000 then ((lossy_Lossy_Update.f bt126.2.1 bt126.2.2.1 bt126.2.2.2.1 bt126.2.2.2.2.1 bt126.2.2.2.2.2 128 199999).bind fun bt132 => (if bt132.1 = 750000 then ((lossy_Lossy_Update.f bt132.2.1 bt132.2.2.1 bt132.2.2.2.1 bt132.2.2.2.2.1 bt132.2.2.2.2.2 0 200000).bind fun bt138 => (some (bt138.1 == 788500))) else (some false))) else (some false))) else (some false))) else ((lossy_New.nil.f 1000000 1000 5000000).bind fun t144 => (if t144 = 0 then ((lossy_Lossy_Update.nilrecv.f 128 0).bind fun t145 => (if t145 = 750000 then ((lossy_Lossy_Update.nilrecv.f 128 199999).bind fun t146 => (if t146 = 750000 then ((lossy_Lossy_Update.nilrecv.f 0 200000).bind fun t147 => (some (t147 == 788500))) else (some false))) else (some false))) else (some false)))
set_option maxHeartbeats 8000000 in
set_option maxRecDepth 100000 in
theorem flywheellaw20_wakes.calls  (r : Bool) (w : World) (hG : GL w) (h : flywheellaw20_wakes.f  = some r) :
  Calls Tryd.prog 8 #[] w fun e w' => e = .returned (.bool r) ∧ Below w.heap.size w w' := by
 have HTB := Aside0.mk hG
 clear hG
 have HB := Aside0.mk (Below.refl w.heap.size w)
 have H : (if (lossy_New.made.f 1000000 1000 5000000).isSome = true then ((lossy_New.made.f 1000000 1000 5000000).bind fun bt119 => (if bt119.2.2.2.2.2 = 0 then ((lossy_Lossy_Update.f bt119.1 bt119.2.1 bt119.2.2.1 bt119.2.2.2.1 bt119.2.2.2.2.1 128 0).bind fun bt126 => (if bt126.1 = 750000 then ((lossy_Lossy_Update.f bt126.2.1 bt126.2.2.1 bt126.2.2.2.1 bt126.2.2.2.2.1 bt126.2.2.2.2.2 128 199999).bind fun bt132 => (if bt132.1 = 750000 then ((lossy_Lossy_Update.f bt132.2.1 bt132.2.2.1 bt132.2.2.2.1 bt132.2.2.2.2.1 bt132.2.2.2.2.2 0 200000).bind fun bt138 => (some (bt138.1 == 788500))) else (some false))) else (some false))) else (some false))) else ((lossy_New.nil.f 1000000 1000 5000000).bind fun t144 => (if t144 = 0 then ((lossy_Lossy_Update.nilrecv.f 128 0).bind fun t145 => (if t145 = 750000 then ((lossy_Lossy_Update.nilrecv.f 128 199999).bind fun t146 => (if t146 = 750000 then ((lossy_Lossy_Update.nilrecv.f 0 200000).bind fun t147 => (some (t147 == 788500))) else (some false))) else (some false))) else (some false)))) = some r := h
 clear h
 by_cases c1 : (lossy_New.made.f 1000000 1000 5000000).isSome = true
 ·rw [if_pos c1] at H
  have c1b0 : (lossy_New.made.f 1000000 1000 5000000).isSome = true := c1
  clear c1
  replace H := Option.bind_eq_some_iff.mp H
  obtain ⟨⟨t119, t120, t121, t122, t123, t125⟩, A20, H⟩ := H
  replace H : (if t125 = 0 then ((lossy_Lossy_Update.f t119 t120 t121 t122 t123 128 0).bind fun bt126 => (if bt126.1 = 750000 then ((lossy_Lossy_Update.f bt126.2.1 bt126.2.2.1 bt126.2.2.2.1 bt126.2.2.2.2.1 bt126.2.2.2.2.2 128 199999).bind fun bt132 => (if bt132.1 = 750000 then ((lossy_Lossy_Update.f bt132.2.1 bt132.2.2.1 bt132.2.2.2.1 bt132.2.2.2.2.1 bt132.2.2.2.2.2 0 200000).bind fun bt138 => (some (bt138.1 == 788500))) else (some false))) else (some false))) else (some false)) = some r := H
  have A2 := Aside0.mk A20
  clear A20
  by_cases c3 : t125 = 0
  ·rw [if_pos c3] at H
   have c3b0 : (t125 == 0) = true := beq_iff_eq.mpr c3
   have c3b1 : (t125 != 0) = false := bne_eq_false_iff_eq.mpr c3
   clear c3
   replace H := Option.bind_eq_some_iff.mp H
   obtain ⟨⟨t126, t127, t128, t129, t130, t131⟩, A40, H⟩ := H
   replace H : (if t126 = 750000 then ((lossy_Lossy_Update.f t127 t128 t129 t130 t131 128 199999).bind fun bt132 => (if bt132.1 = 750000 then ((lossy_Lossy_Update.f bt132.2.1 bt132.2.2.1 bt132.2.2.2.1 bt132.2.2.2.2.1 bt132.2.2.2.2.2 0 200000).bind fun bt138 => (some (bt138.1 == 788500))) else (some false))) else (some false)) = some r := H
   have A4 := Aside0.mk A40
   clear A40
   by_cases c5 : t126 = 750000
   ·rw [if_pos c5] at H
    have c5b0 : (t126 == 750000) = true := beq_iff_eq.mpr c5
    have c5b1 : (t126 != 750000) = false := bne_eq_false_iff_eq.mpr c5
    clear c5
    replace H := Option.bind_eq_some_iff.mp H
    obtain ⟨⟨t132, t133, t134, t135, t136, t137⟩, A60, H⟩ := H
    replace H : (if t132 = 750000 then ((lossy_Lossy_Update.f t133 t134 t135 t136 t137 0 200000).bind fun bt138 => (some (bt138.1 == 788500))) else (some false)) = some r := H
    have A6 := Aside0.mk A60
    clear A60
    by_cases c7 : t132 = 750000
    ·rw [if_pos c7] at H
     have c7b0 : (t132 == 750000) = true := beq_iff_eq.mpr c7
     have c7b1 : (t132 != 750000) = false := bne_eq_false_iff_eq.mpr c7
     clear c7
     replace H := Option.bind_eq_some_iff.mp H
     obtain ⟨⟨t138, t139, t140, t141, t142, t143⟩, A80, H⟩ := H
     replace H : (some (t138 == 788500)) = some r := H
     have A8 := Aside0.mk A80
     clear A80
     obtain rfl := Option.some.inj H
     go_enter Tryd.func8, Tryd.ntmps8
     go_wp2_with (first | ((with_reducible refine gate_callee (f := 7) rfl ?_); refine goesL_ (some 4) rfl rfl Tryd.func7 (by kernel_rfl) rfl #[.int .i64 1000000, .int .i64 1000, .int .i64 5000000] rfl (by (try simp only [List.map_toArray, List.map_cons, List.map_nil]); first | done | rfl | (simp only [List.length_drop, List.length_take]; rfl)) ?_; (with_reducible refine (lossy_New.made.calls 1000000 1000 5000000 t119 t120 t121 t122 t123 t125 _ _ (Below.refl _ _) A2.out).mono ?_); rintro e w9 ⟨g124, rfl, hi, hb, hb2⟩; refine ⟨_, rfl, ?_⟩; have n0_ := Aside0.mk (below_step (by repeat (first | (with_reducible first | exact HB.out | apply below_alloc | apply pw_below_drewN | apply below_drew1) | exact HB.out)) hb2); have n1_ := Aside0.mk ((IsS42.rebase hi (below_size (by repeat (first | (with_reducible first | exact HB.out | apply below_alloc | apply pw_below_drewN | apply below_drew1) | exact HB.out))))); clear HB; have HB := n0_; have HI124 := n1_; clear n0_ n1_; (try clear hb); (try clear hb2); (try clear hk); (try clear hi)) | (go_at_call 9; (with_reducible refine (lossy_Lossy_Update.calls g124 t119 t120 t121 t122 t123 128 0 t126 t127 t128 t129 t130 t131 w _ ?side1 ?side2 ?sideG A4.out).mono ?_); (case sideG => first | exact HTB.out | exact GL.below HTB.out (by repeat (first | (with_reducible first | exact HB.out | apply below_alloc | apply pw_below_drewN | apply below_drew1) | exact HB.out))); (case side1 => repeat (first | (with_reducible first | exact HI124.out | apply IsS42.alloc | apply IsS42.drewN | apply IsS42.drew | apply IsS42.set_0 | apply IsS42.set_1 | apply IsS42.set_2 | apply IsS42.set_3 | apply IsS42.set_4) | exact HI124.out)); (case side2 => repeat (first | (with_reducible first | exact HB.out | apply below_alloc | apply pw_below_drewN | apply below_drew1 | refine below_set ?_ (IsS42.ge HI124.out)) | exact HB.out)); rintro e w10 ⟨rfl, hi, hb, hk⟩; have n0_ := Aside0.mk (hb); have n1_ := Aside0.mk (hi); clear HB; clear HI124; have HB := n0_; have HI124 := n1_; clear n0_ n1_; (try clear hb); (try clear hb2); (try clear hk); (try clear hi)) | (go_at_call 9; (with_reducible refine (lossy_Lossy_Update.calls g124 t127 t128 t129 t130 t131 128 199999 t132 t133 t134 t135 t136 t137 w _ ?side1 ?side2 ?sideG A6.out).mono ?_); (case sideG => first | exact HTB.out | exact GL.below HTB.out (by repeat (first | (with_reducible first | exact HB.out | apply below_alloc | apply pw_below_drewN | apply below_drew1) | exact HB.out))); (case side1 => repeat (first | (with_reducible first | exact HI124.out | apply IsS42.alloc | apply IsS42.drewN | apply IsS42.drew | apply IsS42.set_0 | apply IsS42.set_1 | apply IsS42.set_2 | apply IsS42.set_3 | apply IsS42.set_4) | exact HI124.out)); (case side2 => repeat (first | (with_reducible first | exact HB.out | apply below_alloc | apply pw_below_drewN | apply below_drew1 | refine below_set ?_ (IsS42.ge HI124.out)) | exact HB.out)); rintro e w11 ⟨rfl, hi, hb, hk⟩; have n0_ := Aside0.mk (hb); have n1_ := Aside0.mk (hi); clear HB; clear HI124; have HB := n0_; have HI124 := n1_; clear n0_ n1_; (try clear hb); (try clear hb2); (try clear hk); (try clear hi)) | (go_at_call 9; (with_reducible refine (lossy_Lossy_Update.calls g124 t133 t134 t135 t136 t137 0 200000 t138 t139 t140 t141 t142 t143 w _ ?side1 ?side2 ?sideG A8.out).mono ?_); (case sideG => first | exact HTB.out | exact GL.below HTB.out (by repeat (first | (with_reducible first | exact HB.out | apply below_alloc | apply pw_below_drewN | apply below_drew1) | exact HB.out))); (case side1 => repeat (first | (with_reducible first | exact HI124.out | apply IsS42.alloc | apply IsS42.drewN | apply IsS42.drew | apply IsS42.set_0 | apply IsS42.set_1 | apply IsS42.set_2 | apply IsS42.set_3 | apply IsS42.set_4) | exact HI124.out)); (case side2 => repeat (first | (with_reducible first | exact HB.out | apply below_alloc | apply pw_below_drewN | apply below_drew1 | refine below_set ?_ (IsS42.ge HI124.out)) | exact HB.out)); rintro e w12 ⟨rfl, hi, hb, hk⟩; have n0_ := Aside0.mk (hb); have n1_ := Aside0.mk (hi); clear HB; clear HI124; have HB := n0_; have HI124 := n1_; clear n0_ n1_; (try clear hb); (try clear hb2); (try clear hk); (try clear hi)))
     go_ret
     exact ⟨by first | rfl | (simp [errW_none, errW_some] <;> rfl) | (simp [*, errW_none, errW_some] <;> rfl), by repeat (first | (with_reducible first | exact HB.out | apply below_alloc | apply pw_below_drewN | apply below_drew1 | refine below_set ?_ (IsS42.ge HI124.out)) | exact HB.out)⟩
    ·rw [if_neg c7] at H
     have c7b0 : (t132 == 750000) = false := beq_eq_false_iff_ne.mpr c7
     have c7b1 : (t132 != 750000) = true := bne_iff_ne.mpr c7
     obtain rfl := Option.some.inj H
     go_enter Tryd.func8, Tryd.ntmps8
     go_wp2_with (first | ((with_reducible refine gate_callee (f := 7) rfl ?_); refine goesL_ (some 4) rfl rfl Tryd.func7 (by kernel_rfl) rfl #[.int .i64 1000000, .int .i64 1000, .int .i64 5000000] rfl (by (try simp only [List.map_toArray, List.map_cons, List.map_nil]); first | done | rfl | (simp only [List.length_drop, List.length_take]; rfl)) ?_; (with_reducible refine (lossy_New.made.calls 1000000 1000 5000000 t119 t120 t121 t122 t123 t125 _ _ (Below.refl _ _) A2.out).mono ?_); rintro e w13 ⟨g124, rfl, hi, hb, hb2⟩; refine ⟨_, rfl, ?_⟩; have n0_ := Aside0.mk (below_step (by repeat (first | (with_reducible first | exact HB.out | apply below_alloc | apply pw_below_drewN | apply below_drew1) | exact HB.out)) hb2); have n1_ := Aside0.mk ((IsS42.rebase hi (below_size (by repeat (first | (with_reducible first | exact HB.out | apply below_alloc | apply pw_below_drewN | apply below_drew1) | exact HB.out))))); clear HB; have HB := n0_; have HI124 := n1_; clear n0_ n1_; (try clear hb); (try clear hb2); (try clear hk); (try clear hi)) | (go_at_call 9; (with_reducible refine (lossy_Lossy_Update.calls g124 t119 t120 t121 t122 t123 128 0 t126 t127 t128 t129 t130 t131 w _ ?side1 ?side2 ?sideG A4.out).mono ?_); (case sideG => first | exact HTB.out | exact GL.below HTB.out (by repeat (first | (with_reducible first | exact HB.out | apply below_alloc | apply pw_below_drewN | apply below_drew1) | exact HB.out))); (case side1 => repeat (first | (with_reducible first | exact HI124.out | apply IsS42.alloc | apply IsS42.drewN | apply IsS42.drew | apply IsS42.set_0 | apply IsS42.set_1 | apply IsS42.set_2 | apply IsS42.set_3 | apply IsS42.set_4) | exact HI124.out)); (case side2 => repeat (first | (with_reducible first | exact HB.out | apply below_alloc | apply pw_below_drewN | apply below_drew1 | refine below_set ?_ (IsS42.ge HI124.out)) | exact HB.out)); rintro e w14 ⟨rfl, hi, hb, hk⟩; have n0_ := Aside0.mk (hb); have n1_ := Aside0.mk (hi); clear HB; clear HI124; have HB := n0_; have HI124 := n1_; clear n0_ n1_; (try clear hb); (try clear hb2); (try clear hk); (try clear hi)) | (go_at_call 9; (with_reducible refine (lossy_Lossy_Update.calls g124 t127 t128 t129 t130 t131 128 199999 t132 t133 t134 t135 t136 t137 w _ ?side1 ?side2 ?sideG A6.out).mono ?_); (case sideG => first | exact HTB.out | exact GL.below HTB.out (by repeat (first | (with_reducible first | exact HB.out | apply below_alloc | apply pw_below_drewN | apply below_drew1) | exact HB.out))); (case side1 => repeat (first | (with_reducible first | exact HI124.out | apply IsS42.alloc | apply IsS42.drewN | apply IsS42.drew | apply IsS42.set_0 | apply IsS42.set_1 | apply IsS42.set_2 | apply IsS42.set_3 | apply IsS42.set_4) | exact HI124.out)); (case side2 => repeat (first | (with_reducible first | exact HB.out | apply below_alloc | apply pw_below_drewN | apply below_drew1 | refine below_set ?_ (IsS42.ge HI124.out)) | exact HB.out)); rintro e w15 ⟨rfl, hi, hb, hk⟩; have n0_ := Aside0.mk (hb); have n1_ := Aside0.mk (hi); clear HB; clear HI124; have HB := n0_; have HI124 := n1_; clear n0_ n1_; (try clear hb); (try clear hb2); (try clear hk); (try clear hi)))
     go_ret
     exact ⟨by first | rfl | (simp [errW_none, errW_some] <;> rfl) | (simp [*, errW_none, errW_some] <;> rfl), by repeat (first | (with_reducible first | exact HB.out | apply below_alloc | apply pw_below_drewN | apply below_drew1 | refine below_set ?_ (IsS42.ge HI124.out)) | exact HB.out)⟩
   ·rw [if_neg c5] at H
    have c5b0 : (t126 == 750000) = false := beq_eq_false_iff_ne.mpr c5
    have c5b1 : (t126 != 750000) = true := bne_iff_ne.mpr c5
    obtain rfl := Option.some.inj H
    go_enter Tryd.func8, Tryd.ntmps8
    go_wp2_with (first | ((with_reducible refine gate_callee (f := 7) rfl ?_); refine goesL_ (some 4) rfl rfl Tryd.func7 (by kernel_rfl) rfl #[.int .i64 1000000, .int .i64 1000, .int .i64 5000000] rfl (by (try simp only [List.map_toArray, List.map_cons, List.map_nil]); first | done | rfl | (simp only [List.length_drop, List.length_take]; rfl)) ?_; (with_reducible refine (lossy_New.made.calls 1000000 1000 5000000 t119 t120 t121 t122 t123 t125 _ _ (Below.refl _ _) A2.out).mono ?_); rintro e w16 ⟨g124, rfl, hi, hb, hb2⟩; refine ⟨_, rfl, ?_⟩; have n0_ := Aside0.mk (below_step (by repeat (first | (with_reducible first | exact HB.out | apply below_alloc | apply pw_below_drewN | apply below_drew1) | exact HB.out)) hb2); have n1_ := Aside0.mk ((IsS42.rebase hi (below_size (by repeat (first | (with_reducible first | exact HB.out | apply below_alloc | apply pw_below_drewN | apply below_drew1) | exact HB.out))))); clear HB; have HB := n0_; have HI124 := n1_; clear n0_ n1_; (try clear hb); (try clear hb2); (try clear hk); (try clear hi)) | (go_at_call 9; (with_reducible refine (lossy_Lossy_Update.calls g124 t119 t120 t121 t122 t123 128 0 t126 t127 t128 t129 t130 t131 w _ ?side1 ?side2 ?sideG A4.out).mono ?_); (case sideG => first | exact HTB.out | exact GL.below HTB.out (by repeat (first | (with_reducible first | exact HB.out | apply below_alloc | apply pw_below_drewN | apply below_drew1) | exact HB.out))); (case side1 => repeat (first | (with_reducible first | exact HI124.out | apply IsS42.alloc | apply IsS42.drewN | apply IsS42.drew | apply IsS42.set_0 | apply IsS42.set_1 | apply IsS42.set_2 | apply IsS42.set_3 | apply IsS42.set_4) | exact HI124.out)); (case side2 => repeat (first | (with_reducible first | exact HB.out | apply below_alloc | apply pw_below_drewN | apply below_drew1 | refine below_set ?_ (IsS42.ge HI124.out)) | exact HB.out)); rintro e w17 ⟨rfl, hi, hb, hk⟩; have n0_ := Aside0.mk (hb); have n1_ := Aside0.mk (hi); clear HB; clear HI124; have HB := n0_; have HI124 := n1_; clear n0_ n1_; (try clear hb); (try clear hb2); (try clear hk); (try clear hi)))
    go_ret
    exact ⟨by first | rfl | (simp [errW_none, errW_some] <;> rfl) | (simp [*, errW_none, errW_some] <;> rfl), by repeat (first | (with_reducible first | exact HB.out | apply below_alloc | apply pw_below_drewN | apply below_drew1 | refine below_set ?_ (IsS42.ge HI124.out)) | exact HB.out)⟩
  ·rw [if_neg c3] at H
   have c3b0 : (t125 == 0) = false := beq_eq_false_iff_ne.mpr c3
   have c3b1 : (t125 != 0) = true := bne_iff_ne.mpr c3
   obtain rfl := Option.some.inj H
   go_enter Tryd.func8, Tryd.ntmps8
   go_wp2_with (first | ((with_reducible refine gate_callee (f := 7) rfl ?_); refine goesL_ (some 4) rfl rfl Tryd.func7 (by kernel_rfl) rfl #[.int .i64 1000000, .int .i64 1000, .int .i64 5000000] rfl (by (try simp only [List.map_toArray, List.map_cons, List.map_nil]); first | done | rfl | (simp only [List.length_drop, List.length_take]; rfl)) ?_; (with_reducible refine (lossy_New.made.calls 1000000 1000 5000000 t119 t120 t121 t122 t123 t125 _ _ (Below.refl _ _) A2.out).mono ?_); rintro e w18 ⟨g124, rfl, hi, hb, hb2⟩; refine ⟨_, rfl, ?_⟩; have n0_ := Aside0.mk (below_step (by repeat (first | (with_reducible first | exact HB.out | apply below_alloc | apply pw_below_drewN | apply below_drew1) | exact HB.out)) hb2); have n1_ := Aside0.mk ((IsS42.rebase hi (below_size (by repeat (first | (with_reducible first | exact HB.out | apply below_alloc | apply pw_below_drewN | apply below_drew1) | exact HB.out))))); clear HB; have HB := n0_; have HI124 := n1_; clear n0_ n1_; (try clear hb); (try clear hb2); (try clear hk); (try clear hi)))
   go_ret
   exact ⟨by first | rfl | (simp [errW_none, errW_some] <;> rfl) | (simp [*, errW_none, errW_some] <;> rfl), by repeat (first | (with_reducible first | exact HB.out | apply below_alloc | apply pw_below_drewN | apply below_drew1 | refine below_set ?_ (IsS42.ge HI124.out)) | exact HB.out)⟩
 ·rw [if_neg c1] at H
  have c1b0 : (lossy_New.made.f 1000000 1000 5000000).isSome = false := by simpa using c1
  clear c1
  replace H := Option.bind_eq_some_iff.mp H
  obtain ⟨t144, A190, H⟩ := H
  replace H : (if t144 = 0 then ((lossy_Lossy_Update.nilrecv.f 128 0).bind fun t145 => (if t145 = 750000 then ((lossy_Lossy_Update.nilrecv.f 128 199999).bind fun t146 => (if t146 = 750000 then ((lossy_Lossy_Update.nilrecv.f 0 200000).bind fun t147 => (some (t147 == 788500))) else (some false))) else (some false))) else (some false)) = some r := H
  have A19 := Aside0.mk A190
  clear A190
  by_cases c20 : t144 = 0
  ·rw [if_pos c20] at H
   have c20b0 : (t144 == 0) = true := beq_iff_eq.mpr c20
   have c20b1 : (t144 != 0) = false := bne_eq_false_iff_eq.mpr c20
   clear c20
   replace H := Option.bind_eq_some_iff.mp H
   obtain ⟨t145, A210, H⟩ := H
   replace H : (if t145 = 750000 then ((lossy_Lossy_Update.nilrecv.f 128 199999).bind fun t146 => (if t146 = 750000 then ((lossy_Lossy_Update.nilrecv.f 0 200000).bind fun t147 => (some (t147 == 788500))) else (some false))) else (some false)) = some r := H
   have A21 := Aside0.mk A210
   clear A210
   by_cases c22 : t145 = 750000
   ·rw [if_pos c22] at H
    have c22b0 : (t145 == 750000) = true := beq_iff_eq.mpr c22
    have c22b1 : (t145 != 750000) = false := bne_eq_false_iff_eq.mpr c22
    clear c22
    replace H := Option.bind_eq_some_iff.mp H
    obtain ⟨t146, A230, H⟩ := H
    replace H : (if t146 = 750000 then ((lossy_Lossy_Update.nilrecv.f 0 200000).bind fun t147 => (some (t147 == 788500))) else (some false)) = some r := H
    have A23 := Aside0.mk A230
    clear A230
    by_cases c24 : t146 = 750000
    ·rw [if_pos c24] at H
     have c24b0 : (t146 == 750000) = true := beq_iff_eq.mpr c24
     have c24b1 : (t146 != 750000) = false := bne_eq_false_iff_eq.mpr c24
     clear c24
     replace H := Option.bind_eq_some_iff.mp H
     obtain ⟨t147, A250, H⟩ := H
     replace H : (some (t147 == 788500)) = some r := H
     have A25 := Aside0.mk A250
     clear A250
     obtain rfl := Option.some.inj H
     go_enter Tryd.func8, Tryd.ntmps8
     go_wp2_with (first | ((with_reducible refine gate_callee (f := 7) rfl ?_); refine goesL_ (some 4) rfl rfl Tryd.func7 (by kernel_rfl) rfl #[.int .i64 1000000, .int .i64 1000, .int .i64 5000000] rfl (by (try simp only [List.map_toArray, List.map_cons, List.map_nil]); first | done | rfl | (simp only [List.length_drop, List.length_take]; rfl)) ?_; (with_reducible refine (lossy_New.nil.calls 1000000 1000 5000000 t144 _ A19.out).mono ?_); rintro e w26 ⟨rfl, hb⟩; refine ⟨_, rfl, ?_⟩; have n0_ := Aside0.mk (below_step (by repeat (first | (with_reducible first | exact HB.out | apply below_alloc | apply pw_below_drewN | apply below_drew1) | exact HB.out)) hb); clear HB; have HB := n0_; clear n0_; (try clear hb); (try clear hb2); (try clear hk); (try clear hi)) | (go_at_call 9; (with_reducible refine (lossy_Lossy_Update.nilrecv.calls  128 0 t145 _ A21.out).mono ?_); rintro e w27 ⟨rfl, hb⟩; have n0_ := Aside0.mk (below_step (by repeat (first | (with_reducible first | exact HB.out | apply below_alloc | apply pw_below_drewN | apply below_drew1) | exact HB.out)) hb); clear HB; have HB := n0_; clear n0_; (try clear hb); (try clear hb2); (try clear hk); (try clear hi)) | (go_at_call 9; (with_reducible refine (lossy_Lossy_Update.nilrecv.calls  128 199999 t146 _ A23.out).mono ?_); rintro e w28 ⟨rfl, hb⟩; have n0_ := Aside0.mk (below_step (by repeat (first | (with_reducible first | exact HB.out | apply below_alloc | apply pw_below_drewN | apply below_drew1) | exact HB.out)) hb); clear HB; have HB := n0_; clear n0_; (try clear hb); (try clear hb2); (try clear hk); (try clear hi)) | (go_at_call 9; (with_reducible refine (lossy_Lossy_Update.nilrecv.calls  0 200000 t147 _ A25.out).mono ?_); rintro e w29 ⟨rfl, hb⟩; have n0_ := Aside0.mk (below_step (by repeat (first | (with_reducible first | exact HB.out | apply below_alloc | apply pw_below_drewN | apply below_drew1) | exact HB.out)) hb); clear HB; have HB := n0_; clear n0_; (try clear hb); (try clear hb2); (try clear hk); (try clear hi)))
     go_ret
     exact ⟨by first | rfl | (simp [errW_none, errW_some] <;> rfl) | (simp [*, errW_none, errW_some] <;> rfl), by repeat (first | (with_reducible first | exact HB.out | apply below_alloc | apply pw_below_drewN | apply below_drew1) | exact HB.out)⟩
    ·rw [if_neg c24] at H
     have c24b0 : (t146 == 750000) = false := beq_eq_false_iff_ne.mpr c24
     have c24b1 : (t146 != 750000) = true := bne_iff_ne.mpr c24
     obtain rfl := Option.some.inj H
     go_enter Tryd.func8, Tryd.ntmps8
     go_wp2_with (first | ((with_reducible refine gate_callee (f := 7) rfl ?_); refine goesL_ (some 4) rfl rfl Tryd.func7 (by kernel_rfl) rfl #[.int .i64 1000000, .int .i64 1000, .int .i64 5000000] rfl (by (try simp only [List.map_toArray, List.map_cons, List.map_nil]); first | done | rfl | (simp only [List.length_drop, List.length_take]; rfl)) ?_; (with_reducible refine (lossy_New.nil.calls 1000000 1000 5000000 t144 _ A19.out).mono ?_); rintro e w30 ⟨rfl, hb⟩; refine ⟨_, rfl, ?_⟩; have n0_ := Aside0.mk (below_step (by repeat (first | (with_reducible first | exact HB.out | apply below_alloc | apply pw_below_drewN | apply below_drew1) | exact HB.out)) hb); clear HB; have HB := n0_; clear n0_; (try clear hb); (try clear hb2); (try clear hk); (try clear hi)) | (go_at_call 9; (with_reducible refine (lossy_Lossy_Update.nilrecv.calls  128 0 t145 _ A21.out).mono ?_); rintro e w31 ⟨rfl, hb⟩; have n0_ := Aside0.mk (below_step (by repeat (first | (with_reducible first | exact HB.out | apply below_alloc | apply pw_below_drewN | apply below_drew1) | exact HB.out)) hb); clear HB; have HB := n0_; clear n0_; (try clear hb); (try clear hb2); (try clear hk); (try clear hi)) | (go_at_call 9; (with_reducible refine (lossy_Lossy_Update.nilrecv.calls  128 199999 t146 _ A23.out).mono ?_); rintro e w32 ⟨rfl, hb⟩; have n0_ := Aside0.mk (below_step (by repeat (first | (with_reducible first | exact HB.out | apply below_alloc | apply pw_below_drewN | apply below_drew1) | exact HB.out)) hb); clear HB; have HB := n0_; clear n0_; (try clear hb); (try clear hb2); (try clear hk); (try clear hi)))
     go_ret
     exact ⟨by first | rfl | (simp [errW_none, errW_some] <;> rfl) | (simp [*, errW_none, errW_some] <;> rfl), by repeat (first | (with_reducible first | exact HB.out | apply below_alloc | apply pw_below_drewN | apply below_drew1) | exact HB.out)⟩
   ·rw [if_neg c22] at H
    have c22b0 : (t145 == 750000) = false := beq_eq_false_iff_ne.mpr c22
    have c22b1 : (t145 != 750000) = true := bne_iff_ne.mpr c22
    obtain rfl := Option.some.inj H
    go_enter Tryd.func8, Tryd.ntmps8
    go_wp2_with (first | ((with_reducible refine gate_callee (f := 7) rfl ?_); refine goesL_ (some 4) rfl rfl Tryd.func7 (by kernel_rfl) rfl #[.int .i64 1000000, .int .i64 1000, .int .i64 5000000] rfl (by (try simp only [List.map_toArray, List.map_cons, List.map_nil]); first | done | rfl | (simp only [List.length_drop, List.length_take]; rfl)) ?_; (with_reducible refine (lossy_New.nil.calls 1000000 1000 5000000 t144 _ A19.out).mono ?_); rintro e w33 ⟨rfl, hb⟩; refine ⟨_, rfl, ?_⟩; have n0_ := Aside0.mk (below_step (by repeat (first | (with_reducible first | exact HB.out | apply below_alloc | apply pw_below_drewN | apply below_drew1) | exact HB.out)) hb); clear HB; have HB := n0_; clear n0_; (try clear hb); (try clear hb2); (try clear hk); (try clear hi)) | (go_at_call 9; (with_reducible refine (lossy_Lossy_Update.nilrecv.calls  128 0 t145 _ A21.out).mono ?_); rintro e w34 ⟨rfl, hb⟩; have n0_ := Aside0.mk (below_step (by repeat (first | (with_reducible first | exact HB.out | apply below_alloc | apply pw_below_drewN | apply below_drew1) | exact HB.out)) hb); clear HB; have HB := n0_; clear n0_; (try clear hb); (try clear hb2); (try clear hk); (try clear hi)))
    go_ret
    exact ⟨by first | rfl | (simp [errW_none, errW_some] <;> rfl) | (simp [*, errW_none, errW_some] <;> rfl), by repeat (first | (with_reducible first | exact HB.out | apply below_alloc | apply pw_below_drewN | apply below_drew1) | exact HB.out)⟩
  ·rw [if_neg c20] at H
   have c20b0 : (t144 == 0) = false := beq_eq_false_iff_ne.mpr c20
   have c20b1 : (t144 != 0) = true := bne_iff_ne.mpr c20
   obtain rfl := Option.some.inj H
   go_enter Tryd.func8, Tryd.ntmps8
   go_wp2_with (first | ((with_reducible refine gate_callee (f := 7) rfl ?_); refine goesL_ (some 4) rfl rfl Tryd.func7 (by kernel_rfl) rfl #[.int .i64 1000000, .int .i64 1000, .int .i64 5000000] rfl (by (try simp only [List.map_toArray, List.map_cons, List.map_nil]); first | done | rfl | (simp only [List.length_drop, List.length_take]; rfl)) ?_; (with_reducible refine (lossy_New.nil.calls 1000000 1000 5000000 t144 _ A19.out).mono ?_); rintro e w35 ⟨rfl, hb⟩; refine ⟨_, rfl, ?_⟩; have n0_ := Aside0.mk (below_step (by repeat (first | (with_reducible first | exact HB.out | apply below_alloc | apply pw_below_drewN | apply below_drew1) | exact HB.out)) hb); clear HB; have HB := n0_; clear n0_; (try clear hb); (try clear hb2); (try clear hk); (try clear hi)))
   go_ret
   exact ⟨by first | rfl | (simp [errW_none, errW_some] <;> rfl) | (simp [*, errW_none, errW_some] <;> rfl), by repeat (first | (with_reducible first | exact HB.out | apply below_alloc | apply pw_below_drewN | apply below_drew1) | exact HB.out)⟩
def flywheellaw20_LossyCuts.f (a0_0 : Int) (a0_1 : Int) (a0_2 : Int) (a1 : Int) : Option (Bool) := if (lossy_New.made.f a0_0 a0_1 a0_2).isSome = true then ((lossy_New.made.f a0_0 a0_1 a0_2).bind fun bt149 => (if bt149.2.2.2.2.2 = 0 then (if a1 > 26 then ((lossy_Lossy_Update.f bt149.1 bt149.2.1 bt149.2.2.1 bt149.2.2.2.1 bt149.2.2.2.2.1 (wrap64 (a1)) 0).bind fun bt156 => (if bt156.1 = (mx a0_1 (wrap64 ((wrap64 ((wrap64 (Int.tdiv a0_0 512)) * (wrap64 (512 - (wrap64 (a1)))))) + (wrap64 (Int.tdiv (wrap64 ((Int.tmod a0_0 512) * (wrap64 (512 - (wrap64 (a1)))))) 512))))) then ((flywheellaw20_wakes.f).bind fun t162 => (some t162)) else (some false))) else (if a1 < 6 then ((lossy_Lossy_Update.f bt149.1 bt149.2.1 bt149.2.2.1 bt149.2.2.2.1 bt149.2.2.2.2.1 (wrap64 (a1)) 0).bind fun bt163 => (if bt163.1 = (mn a0_2 (wrap64 ((wrap64 (a0_0 + (wrap64 (Int.tdiv (wrap64 ((wrap64 (a0_0 * 5)) + 99)) 100)))) + 1000))) then ((flywheellaw20_wakes.f).bind fun t169 => (some t169)) else (some false))) else ((lossy_Lossy_Update.f bt149.1 bt149.2.1 bt149.2.2.1 bt149.2.2.2.1 bt149.2.2.2.2.1 (wrap64 (a1)) 0).bind fun bt170 => (if bt170.1 = a0_0 then ((flywheellaw20_wakes.f).bind fun t176 => (some t176)) else (some false))))) else (some false))) else ((lossy_New.nil.f a0_0 a0_1 a0_2).bind fun t177 => (if t177 = 0 then (if a1 > 26 then ((lossy_Lossy_Update.nilrecv.f (wrap64 (a1)) 0).bind fun t179 => (if t179 = (mx a0_1 (wrap64 ((wrap64 ((wrap64 (Int.tdiv a0_0 512)) * (wrap64 (512 - (wrap64 (a1)))))) + (wrap64 (Int.tdiv (wrap64 ((Int.tmod a0_0 512) * (wrap64 (512 - (wrap64 (a1)))))) 512))))) then ((flywheellaw20_wakes.f).bind fun t180 => (some t180)) else (some false))) else (if a1 < 6 then ((lossy_Lossy_Update.nilrecv.f (wrap64 (a1)) 0).bind fun t181 => (if t181 = (mn a0_2 (wrap64 ((wrap64 (a0_0 + (wrap64 (Int.tdiv (wrap64 ((wrap64 (a0_0 * 5)) + 99)) 100)))) + 1000))) then ((flywheellaw20_wakes.f).bind fun t182 => (some t182)) else (some false))) else ((lossy_Lossy_Update.nilrecv.f (wrap64 (a1)) 0).bind fun t183 => (if t183 = a0_0 then ((flywheellaw20_wakes.f).bind fun t184 => (some t184)) else (some false))))) else ((flywheellaw20_wakes.f).bind fun t178 => (some t178))))
set_option maxHeartbeats 8000000 in
set_option maxRecDepth 100000 in
theorem flywheellaw20_LossyCuts.calls (a0_0 : Int) (a0_1 : Int) (a0_2 : Int) (a1 : Int) (r : Bool) (w : World) (hG : GL w) (h : flywheellaw20_LossyCuts.f a0_0 a0_1 a0_2 a1 = some r) :
  Calls Tryd.prog 3 #[.agg #[.int .i64 a0_0, .int .i64 a0_1, .int .i64 a0_2], .int .u8 a1] w fun e w' => e = .returned (.bool r) ∧ Below w.heap.size w w' := by
 have HTB := Aside0.mk hG
 clear hG
 have hu23 := Tryd.underlying23
 have hpn24_eql : ∀ (a_ : Addr) (W_ : World), (Go.binOp .eql 24 (.pointer (some a_)) (.pointer none)).run Tryd.prog W_ = .ok (.bool false) W_ := fun _ _ => by kernel_rfl
 have hnn24_eql : ∀ (W_ : World), (Go.binOp .eql 24 (.pointer none) (.pointer none)).run Tryd.prog W_ = .ok (.bool true) W_ := fun _ => by kernel_rfl
 have HB := Aside0.mk (Below.refl w.heap.size w)
 have H : (if (lossy_New.made.f a0_0 a0_1 a0_2).isSome = true then ((lossy_New.made.f a0_0 a0_1 a0_2).bind fun bt149 => (if bt149.2.2.2.2.2 = 0 then (if a1 > 26 then ((lossy_Lossy_Update.f bt149.1 bt149.2.1 bt149.2.2.1 bt149.2.2.2.1 bt149.2.2.2.2.1 (wrap64 (a1)) 0).bind fun bt156 => (if bt156.1 = (mx a0_1 (wrap64 ((wrap64 ((wrap64 (Int.tdiv a0_0 512)) * (wrap64 (512 - (wrap64 (a1)))))) + (wrap64 (Int.tdiv (wrap64 ((Int.tmod a0_0 512) * (wrap64 (512 - (wrap64 (a1)))))) 512))))) then ((flywheellaw20_wakes.f).bind fun t162 => (some t162)) else (some false))) else (if a1 < 6 then ((lossy_Lossy_Update.f bt149.1 bt149.2.1 bt149.2.2.1 bt149.2.2.2.1 bt149.2.2.2.2.1 (wrap64 (a1)) 0).bind fun bt163 => (if bt163.1 = (mn a0_2 (wrap64 ((wrap64 (a0_0 + (wrap64 (Int.tdiv (wrap64 ((wrap64 (a0_0 * 5)) + 99)) 100)))) + 1000))) then ((flywheellaw20_wakes.f).bind fun t169 => (some t169)) else (some false))) else ((lossy_Lossy_Update.f bt149.1 bt149.2.1 bt149.2.2.1 bt149.2.2.2.1 bt149.2.2.2.2.1 (wrap64 (a1)) 0).bind fun bt170 => (if bt170.1 = a0_0 then ((flywheellaw20_wakes.f).bind fun t176 => (some t176)) else (some false))))) else (some false))) else ((lossy_New.nil.f a0_0 a0_1 a0_2).bind fun t177 => (if t177 = 0 then (if a1 > 26 then ((lossy_Lossy_Update.nilrecv.f (wrap64 (a1)) 0).bind fun t179 => (if t179 = (mx a0_1 (wrap64 ((wrap64 ((wrap64 (Int.tdiv a0_0 512)) * (wrap64 (512 - (wrap64 (a1)))))) + (wrap64 (Int.tdiv (wrap64 ((Int.tmod a0_0 512) * (wrap64 (512 - (wrap64 (a1)))))) 512))))) then ((flywheellaw20_wakes.f).bind fun t180 => (some t180)) else (some false))) else (if a1 < 6 then ((lossy_Lossy_Update.nilrecv.f (wrap64 (a1)) 0).bind fun t181 => (if t181 = (mn a0_2 (wrap64 ((wrap64 (a0_0 + (wrap64 (Int.tdiv (wrap64 ((wrap64 (a0_0 * 5)) + 99)) 100)))) + 1000))) then ((flywheellaw20_wakes.f).bind fun t182 => (some t182)) else (some false))) else ((lossy_Lossy_Update.nilrecv.f (wrap64 (a1)) 0).bind fun t183 => (if t183 = a0_0 then ((flywheellaw20_wakes.f).bind fun t184 => (some t184)) else (some false))))) else ((flywheellaw20_wakes.f).bind fun t178 => (some t178))))) = some r := h
 clear h
 by_cases c3 : (lossy_New.made.f a0_0 a0_1 a0_2).isSome = true
 ·rw [if_pos c3] at H
  have c3b0 : (lossy_New.made.f a0_0 a0_1 a0_2).isSome = true := c3
  clear c3
  replace H := Option.bind_eq_some_iff.mp H
  obtain ⟨⟨t149, t150, t151, t152, t153, t155⟩, A40, H⟩ := H
  replace H : (if t155 = 0 then (if a1 > 26 then ((lossy_Lossy_Update.f t149 t150 t151 t152 t153 (wrap64 (a1)) 0).bind fun bt156 => (if bt156.1 = (mx a0_1 (wrap64 ((wrap64 ((wrap64 (Int.tdiv a0_0 512)) * (wrap64 (512 - (wrap64 (a1)))))) + (wrap64 (Int.tdiv (wrap64 ((Int.tmod a0_0 512) * (wrap64 (512 - (wrap64 (a1)))))) 512))))) then ((flywheellaw20_wakes.f).bind fun t162 => (some t162)) else (some false))) else (if a1 < 6 then ((lossy_Lossy_Update.f t149 t150 t151 t152 t153 (wrap64 (a1)) 0).bind fun bt163 => (if bt163.1 = (mn a0_2 (wrap64 ((wrap64 (a0_0 + (wrap64 (Int.tdiv (wrap64 ((wrap64 (a0_0 * 5)) + 99)) 100)))) + 1000))) then ((flywheellaw20_wakes.f).bind fun t169 => (some t169)) else (some false))) else ((lossy_Lossy_Update.f t149 t150 t151 t152 t153 (wrap64 (a1)) 0).bind fun bt170 => (if bt170.1 = a0_0 then ((flywheellaw20_wakes.f).bind fun t176 => (some t176)) else (some false))))) else (some false)) = some r := H
  have A4 := Aside0.mk A40
  clear A40
  by_cases c5 : t155 = 0
  ·rw [if_pos c5] at H
   have c5b0 : (t155 == 0) = true := beq_iff_eq.mpr c5
   have c5b1 : (t155 != 0) = false := bne_eq_false_iff_eq.mpr c5
   clear c5
   by_cases c6 : a1 > 26
   ·rw [if_pos c6] at H
    have c6b0 : decide (26 < a1) = true := decide_eq_true c6
    clear c6
    obtain ⟨ji7, hji7⟩ : ∃ j_ : Int, (mx a0_1 (wrap64 ((wrap64 ((wrap64 (Int.tdiv a0_0 512)) * (wrap64 (512 - (wrap64 (a1)))))) + (wrap64 (Int.tdiv (wrap64 ((Int.tmod a0_0 512) * (wrap64 (512 - (wrap64 (a1)))))) 512))))) = j_ := ⟨_, rfl⟩
    replace H : ((lossy_Lossy_Update.f t149 t150 t151 t152 t153 (wrap64 (a1)) 0).bind fun bt156 => (if bt156.1 = (ji7) then ((flywheellaw20_wakes.f).bind fun t162 => (some t162)) else (some false))) = some r := by first | (rw [hji7] at H; exact H) | (simp only [hji7] at H ⊢; exact H)
    (try rw [hji7] at A4)
    have hji7_ : (if a0_1 < (wrap64 ((wrap64 ((wrap64 (Int.tdiv a0_0 512)) * (wrap64 (512 - (wrap64 (a1)))))) + (wrap64 (Int.tdiv (wrap64 ((Int.tmod a0_0 512) * (wrap64 (512 - (wrap64 (a1)))))) 512)))) then (wrap64 ((wrap64 ((wrap64 (Int.tdiv a0_0 512)) * (wrap64 (512 - (wrap64 (a1)))))) + (wrap64 (Int.tdiv (wrap64 ((Int.tmod a0_0 512) * (wrap64 (512 - (wrap64 (a1)))))) 512)))) else a0_1) = ji7 := hji7
    replace H := Option.bind_eq_some_iff.mp H
    obtain ⟨⟨t156, t157, t158, t159, t160, t161⟩, A80, H⟩ := H
    replace H : (if t156 = (ji7) then ((flywheellaw20_wakes.f).bind fun t162 => (some t162)) else (some false)) = some r := H
    have A8 := Aside0.mk A80
    clear A80
    by_cases c9 : t156 = (ji7)
    ·rw [if_pos c9] at H
     have c9b0 : (t156 == (ji7)) = true := beq_iff_eq.mpr c9
     have c9b1 : (t156 != (ji7)) = false := bne_eq_false_iff_eq.mpr c9
     clear c9
     replace H := Option.bind_eq_some_iff.mp H
     obtain ⟨t162, A100, H⟩ := H
     replace H : (some t162) = some r := H
     have A10 := Aside0.mk A100
     clear A100
     obtain rfl := Option.some.inj H
     go_enter Tryd.func3, Tryd.ntmps3
     go_wp2_with (first | ((with_reducible refine gate_dst (N := 2) rfl ?_); refine box_event ?hg (N := 2) ?hd (cs := #[.int .i64 a0_0, .int .i64 a0_1, .int .i64 a0_2]) (t := 23) ?hr ?_; (case hd => rfl); (case hg => rfl); (case hr => first | (go_simp; done) | (go_simp; rfl)); intro gb148 hg w11 hbox hb; have n0_ := Aside0.mk (below_step (by repeat (first | (with_reducible first | exact HB.out | apply below_alloc | apply pw_below_drewN | apply below_drew1) | exact HB.out)) hb); have n1_ := Aside0.mk (hbox); have n2_ := Aside0.mk ((by rw [hg]; exact (below_size (by repeat (first | (with_reducible first | exact HB.out | apply below_alloc | apply pw_below_drewN | apply below_drew1) | exact HB.out))) : w.heap.size ≤ gb148)); have n3_ := Aside0.mk ((by rw [hg]; exact (below_size (by repeat (first | (with_reducible first | exact HB.out | apply below_alloc | apply pw_below_drewN | apply below_drew1) | exact HB.out))) : w.heap.size ≤ gb148)); clear HB; have HB := n0_; have BK148 := n1_; have GW148 := n2_; have GE148 := n3_; clear n0_ n1_ n2_ n3_; clear hb hbox hg; have hcz12_0 : w11.cell? ⟨gb148, 0, none⟩ = some (.int .i64 a0_0) := (blk_cell BK148.out 0).trans rfl; have hcz12_1 : w11.cell? ⟨gb148, 1, none⟩ = some (.int .i64 a0_1) := (blk_cell BK148.out 1).trans rfl; have hcz12_2 : w11.cell? ⟨gb148, 2, none⟩ = some (.int .i64 a0_2) := (blk_cell BK148.out 2).trans rfl; have hfz12_0 := blk_frozen BK148.out 0; have hfz12_1 := blk_frozen BK148.out 1; have hfz12_2 := blk_frozen BK148.out 2) | ((with_reducible refine gate_callee (f := 7) rfl ?_); refine goesL_ (some 16) rfl rfl Tryd.func7 (by kernel_rfl) rfl #[.int .i64 a0_0, .int .i64 a0_1, .int .i64 a0_2] rfl (by (try simp only [List.map_toArray, List.map_cons, List.map_nil]); first | done | rfl | (simp only [List.length_drop, List.length_take]; rfl)) ?_; (with_reducible refine (lossy_New.made.calls a0_0 a0_1 a0_2 t149 t150 t151 t152 t153 t155 _ _ (Below.refl _ _) A4.out).mono ?_); rintro e w13 ⟨g154, rfl, hi, hb, hb2⟩; refine ⟨_, rfl, ?_⟩; have n0_ := Aside0.mk (blk_below (g := gb148) (o := .cells #[.int .i64 a0_0, .int .i64 a0_1, .int .i64 a0_2] 23 (0, 0)) (by (with_reducible repeat (first | refine blk_drewN ?_ _ | refine blk_drew ?_ | refine blk_alloc ?_ _)); exact BK148.out) hb2); have n1_ := Aside0.mk (below_step (by repeat (first | (with_reducible first | exact HB.out | apply below_alloc | apply pw_below_drewN | apply below_drew1 | refine below_set ?_ GE148.out) | exact HB.out)) hb2); have n2_ := Aside0.mk ((IsS42.rebase hi (below_size (by repeat (first | (with_reducible first | exact HB.out | apply below_alloc | apply pw_below_drewN | apply below_drew1 | refine below_set ?_ GE148.out) | exact HB.out))))); have n3_ := Aside0.mk (IsS42.ne_blk hi (blk_below (g := gb148) (o := .cells #[.int .i64 a0_0, .int .i64 a0_1, .int .i64 a0_2] 23 (0, 0)) (by (with_reducible repeat (first | refine blk_drewN ?_ _ | refine blk_drew ?_ | refine blk_alloc ?_ _)); exact BK148.out) hb2) (by decide)); have n4_ := Aside0.mk (Ne.symm (IsS42.ne_blk hi (blk_below (g := gb148) (o := .cells #[.int .i64 a0_0, .int .i64 a0_1, .int .i64 a0_2] 23 (0, 0)) (by (with_reducible repeat (first | refine blk_drewN ?_ _ | refine blk_drew ?_ | refine blk_alloc ?_ _)); exact BK148.out) hb2) (by decide))); clear BK148; clear HB; have BK148 := n0_; have HB := n1_; have HI154 := n2_; have NB154_148 := n3_; have NB148_154 := n4_; clear n0_ n1_ n2_ n3_ n4_; (try clear hb); (try clear hb2); (try clear hk); (try clear hi); have hnb14 := NB148_154.out; have hnc14 := NB154_148.out; have hcz15_0 : w13.cell? ⟨gb148, 0, none⟩ = some (.int .i64 a0_0) := (blk_cell BK148.out 0).trans rfl; have hcz15_1 : w13.cell? ⟨gb148, 1, none⟩ = some (.int .i64 a0_1) := (blk_cell BK148.out 1).trans rfl; have hcz15_2 : w13.cell? ⟨gb148, 2, none⟩ = some (.int .i64 a0_2) := (blk_cell BK148.out 2).trans rfl; have hfz15_0 := blk_frozen BK148.out 0; have hfz15_1 := blk_frozen BK148.out 1; have hfz15_2 := blk_frozen BK148.out 2) | ((with_reducible refine gate_callee (f := 9) rfl ?_); refine goesL_ (some 66) rfl rfl Tryd.func9 (by kernel_rfl) rfl #[.pointer (some ⟨g154, 0, none⟩), .int .i64 (wrap64 (a1)), .int .i64 0] rfl (by (try simp only [List.map_toArray, List.map_cons, List.map_nil]); first | done | rfl | (simp only [List.length_drop, List.length_take]; rfl)) ?_; (with_reducible refine (lossy_Lossy_Update.calls g154 t149 t150 t151 t152 t153 (wrap64 (a1)) 0 t156 t157 t158 t159 t160 t161 w _ ?side1 ?side2 ?sideG A8.out).mono ?_); (case sideG => first | exact HTB.out | exact GL.below HTB.out (by repeat (first | (with_reducible first | exact HB.out | apply below_alloc | apply pw_below_drewN | apply below_drew1) | exact HB.out))); (case side1 => repeat (first | (with_reducible first | exact HI154.out | apply IsS42.alloc | apply IsS42.drewN | apply IsS42.drew | apply IsS42.set_0 | apply IsS42.set_1 | apply IsS42.set_2 | apply IsS42.set_3 | apply IsS42.set_4 | refine IsS42.far ?_ NB154_148.out _) | exact HI154.out)); (case side2 => repeat (first | (with_reducible first | exact HB.out | apply below_alloc | apply pw_below_drewN | apply below_drew1 | refine below_set ?_ (IsS42.ge HI154.out) | refine below_set ?_ GE148.out) | exact HB.out)); rintro e w16 ⟨rfl, hi, hb, hk⟩; refine ⟨_, rfl, ?_⟩; have n0_ := Aside0.mk (KeepBut.blk hk (g' := gb148) (o := .cells #[.int .i64 a0_0, .int .i64 a0_1, .int .i64 a0_2] 23 (0, 0)) (by (with_reducible repeat (first | refine blk_drewN ?_ _ | refine blk_drew ?_ | refine blk_alloc ?_ _)); exact BK148.out) NB148_154.out (by simp)); have n1_ := Aside0.mk (hb); have n2_ := Aside0.mk (hi); clear BK148; clear HB; clear HI154; have BK148 := n0_; have HB := n1_; have HI154 := n2_; clear n0_ n1_ n2_; (try clear hb); (try clear hb2); (try clear hk); (try clear hi)) | (go_at_call 8; (with_reducible refine (flywheellaw20_wakes.calls  t162 _ ?sideG A10.out).mono ?_); (case sideG => first | exact HTB.out | exact GL.below HTB.out (by repeat (first | (with_reducible first | exact HB.out | apply below_alloc | apply pw_below_drewN | apply below_drew1 | refine below_set ?_ (IsS42.ge HI154.out) | refine below_set ?_ GE148.out) | exact HB.out))); rintro e w17 ⟨rfl, hb⟩; have n0_ := Aside0.mk (blk_below (g := gb148) (o := .cells #[.int .i64 a0_0, .int .i64 a0_1, .int .i64 a0_2] 23 (0, 0)) (by (with_reducible repeat (first | refine blk_drewN ?_ _ | refine blk_drew ?_ | refine blk_alloc ?_ _)); exact BK148.out) hb); have n1_ := Aside0.mk (IsS42.below (by repeat (first | (with_reducible first | exact HI154.out | apply IsS42.alloc | apply IsS42.drewN | apply IsS42.drew | apply IsS42.set_0 | apply IsS42.set_1 | apply IsS42.set_2 | apply IsS42.set_3 | apply IsS42.set_4 | refine IsS42.far ?_ NB154_148.out _) | exact HI154.out)) hb); have n2_ := Aside0.mk (below_step (by repeat (first | (with_reducible first | exact HB.out | apply below_alloc | apply pw_below_drewN | apply below_drew1 | refine below_set ?_ (IsS42.ge HI154.out) | refine below_set ?_ GE148.out) | exact HB.out)) hb); clear BK148; clear HI154; clear HB; have BK148 := n0_; have HI154 := n1_; have HB := n2_; clear n0_ n1_ n2_; (try clear hb); (try clear hb2); (try clear hk); (try clear hi)))
     go_ret
     exact ⟨by first | rfl | (simp [errW_none, errW_some] <;> rfl) | (simp only [← hji7]; first | rfl | (simp [errW_none, errW_some] <;> rfl)) | (simp [*, errW_none, errW_some] <;> rfl), by repeat (first | (with_reducible first | exact HB.out | apply below_alloc | apply pw_below_drewN | apply below_drew1 | refine below_set ?_ (IsS42.ge HI154.out) | refine below_set ?_ GE148.out) | exact HB.out)⟩
    ·rw [if_neg c9] at H
     have c9b0 : (t156 == (ji7)) = false := beq_eq_false_iff_ne.mpr c9
     have c9b1 : (t156 != (ji7)) = true := bne_iff_ne.mpr c9
     obtain rfl := Option.some.inj H
     go_enter Tryd.func3, Tryd.ntmps3
     go_wp2_with (first | ((with_reducible refine gate_dst (N := 2) rfl ?_); refine box_event ?hg (N := 2) ?hd (cs := #[.int .i64 a0_0, .int .i64 a0_1, .int .i64 a0_2]) (t := 23) ?hr ?_; (case hd => rfl); (case hg => rfl); (case hr => first | (go_simp; done) | (go_simp; rfl)); intro gb148 hg w18 hbox hb; have n0_ := Aside0.mk (below_step (by repeat (first | (with_reducible first | exact HB.out | apply below_alloc | apply pw_below_drewN | apply below_drew1) | exact HB.out)) hb); have n1_ := Aside0.mk (hbox); have n2_ := Aside0.mk ((by rw [hg]; exact (below_size (by repeat (first | (with_reducible first | exact HB.out | apply below_alloc | apply pw_below_drewN | apply below_drew1) | exact HB.out))) : w.heap.size ≤ gb148)); have n3_ := Aside0.mk ((by rw [hg]; exact (below_size (by repeat (first | (with_reducible first | exact HB.out | apply below_alloc | apply pw_below_drewN | apply below_drew1) | exact HB.out))) : w.heap.size ≤ gb148)); clear HB; have HB := n0_; have BK148 := n1_; have GW148 := n2_; have GE148 := n3_; clear n0_ n1_ n2_ n3_; clear hb hbox hg; have hcz19_0 : w18.cell? ⟨gb148, 0, none⟩ = some (.int .i64 a0_0) := (blk_cell BK148.out 0).trans rfl; have hcz19_1 : w18.cell? ⟨gb148, 1, none⟩ = some (.int .i64 a0_1) := (blk_cell BK148.out 1).trans rfl; have hcz19_2 : w18.cell? ⟨gb148, 2, none⟩ = some (.int .i64 a0_2) := (blk_cell BK148.out 2).trans rfl; have hfz19_0 := blk_frozen BK148.out 0; have hfz19_1 := blk_frozen BK148.out 1; have hfz19_2 := blk_frozen BK148.out 2) | ((with_reducible refine gate_callee (f := 7) rfl ?_); refine goesL_ (some 16) rfl rfl Tryd.func7 (by kernel_rfl) rfl #[.int .i64 a0_0, .int .i64 a0_1, .int .i64 a0_2] rfl (by (try simp only [List.map_toArray, List.map_cons, List.map_nil]); first | done | rfl | (simp only [List.length_drop, List.length_take]; rfl)) ?_; (with_reducible refine (lossy_New.made.calls a0_0 a0_1 a0_2 t149 t150 t151 t152 t153 t155 _ _ (Below.refl _ _) A4.out).mono ?_); rintro e w20 ⟨g154, rfl, hi, hb, hb2⟩; refine ⟨_, rfl, ?_⟩; have n0_ := Aside0.mk (blk_below (g := gb148) (o := .cells #[.int .i64 a0_0, .int .i64 a0_1, .int .i64 a0_2] 23 (0, 0)) (by (with_reducible repeat (first | refine blk_drewN ?_ _ | refine blk_drew ?_ | refine blk_alloc ?_ _)); exact BK148.out) hb2); have n1_ := Aside0.mk (below_step (by repeat (first | (with_reducible first | exact HB.out | apply below_alloc | apply pw_below_drewN | apply below_drew1 | refine below_set ?_ GE148.out) | exact HB.out)) hb2); have n2_ := Aside0.mk ((IsS42.rebase hi (below_size (by repeat (first | (with_reducible first | exact HB.out | apply below_alloc | apply pw_below_drewN | apply below_drew1 | refine below_set ?_ GE148.out) | exact HB.out))))); have n3_ := Aside0.mk (IsS42.ne_blk hi (blk_below (g := gb148) (o := .cells #[.int .i64 a0_0, .int .i64 a0_1, .int .i64 a0_2] 23 (0, 0)) (by (with_reducible repeat (first | refine blk_drewN ?_ _ | refine blk_drew ?_ | refine blk_alloc ?_ _)); exact BK148.out) hb2) (by decide)); have n4_ := Aside0.mk (Ne.symm (IsS42.ne_blk hi (blk_below (g := gb148) (o := .cells #[.int .i64 a0_0, .int .i64 a0_1, .int .i64 a0_2] 23 (0, 0)) (by (with_reducible repeat (first | refine blk_drewN ?_ _ | refine blk_drew ?_ | refine blk_alloc ?_ _)); exact BK148.out) hb2) (by decide))); clear BK148; clear HB; have BK148 := n0_; have HB := n1_; have HI154 := n2_; have NB154_148 := n3_; have NB148_154 := n4_; clear n0_ n1_ n2_ n3_ n4_; (try clear hb); (try clear hb2); (try clear hk); (try clear hi); have hnb21 := NB148_154.out; have hnc21 := NB154_148.out; have hcz22_0 : w20.cell? ⟨gb148, 0, none⟩ = some (.int .i64 a0_0) := (blk_cell BK148.out 0).trans rfl; have hcz22_1 : w20.cell? ⟨gb148, 1, none⟩ = some (.int .i64 a0_1) := (blk_cell BK148.out 1).trans rfl; have hcz22_2 : w20.cell? ⟨gb148, 2, none⟩ = some (.int .i64 a0_2) := (blk_cell BK148.out 2).trans rfl; have hfz22_0 := blk_frozen BK148.out 0; have hfz22_1 := blk_frozen BK148.out 1; have hfz22_2 := blk_frozen BK148.out 2) | ((with_reducible refine gate_callee (f := 9) rfl ?_); refine goesL_ (some 66) rfl rfl Tryd.func9 (by kernel_rfl) rfl #[.pointer (some ⟨g154, 0, none⟩), .int .i64 (wrap64 (a1)), .int .i64 0] rfl (by (try simp only [List.map_toArray, List.map_cons, List.map_nil]); first | done | rfl | (simp only [List.length_drop, List.length_take]; rfl)) ?_; (with_reducible refine (lossy_Lossy_Update.calls g154 t149 t150 t151 t152 t153 (wrap64 (a1)) 0 t156 t157 t158 t159 t160 t161 w _ ?side1 ?side2 ?sideG A8.out).mono ?_); (case sideG => first | exact HTB.out | exact GL.below HTB.out (by repeat (first | (with_reducible first | exact HB.out | apply below_alloc | apply pw_below_drewN | apply below_drew1) | exact HB.out))); (case side1 => repeat (first | (with_reducible first | exact HI154.out | apply IsS42.alloc | apply IsS42.drewN | apply IsS42.drew | apply IsS42.set_0 | apply IsS42.set_1 | apply IsS42.set_2 | apply IsS42.set_3 | apply IsS42.set_4 | refine IsS42.far ?_ NB154_148.out _) | exact HI154.out)); (case side2 => repeat (first | (with_reducible first | exact HB.out | apply below_alloc | apply pw_below_drewN | apply below_drew1 | refine below_set ?_ (IsS42.ge HI154.out) | refine below_set ?_ GE148.out) | exact HB.out)); rintro e w23 ⟨rfl, hi, hb, hk⟩; refine ⟨_, rfl, ?_⟩; have n0_ := Aside0.mk (KeepBut.blk hk (g' := gb148) (o := .cells #[.int .i64 a0_0, .int .i64 a0_1, .int .i64 a0_2] 23 (0, 0)) (by (with_reducible repeat (first | refine blk_drewN ?_ _ | refine blk_drew ?_ | refine blk_alloc ?_ _)); exact BK148.out) NB148_154.out (by simp)); have n1_ := Aside0.mk (hb); have n2_ := Aside0.mk (hi); clear BK148; clear HB; clear HI154; have BK148 := n0_; have HB := n1_; have HI154 := n2_; clear n0_ n1_ n2_; (try clear hb); (try clear hb2); (try clear hk); (try clear hi)))
     go_ret
     exact ⟨by first | rfl | (simp [errW_none, errW_some] <;> rfl) | (simp only [← hji7]; first | rfl | (simp [errW_none, errW_some] <;> rfl)) | (simp [*, errW_none, errW_some] <;> rfl), by repeat (first | (with_reducible first | exact HB.out | apply below_alloc | apply pw_below_drewN | apply below_drew1 | refine below_set ?_ (IsS42.ge HI154.out) | refine below_set ?_ GE148.out) | exact HB.out)⟩
   ·rw [if_neg c6] at H
    have c6b0 : decide (26 < a1) = false := decide_eq_false c6
    clear c6
    by_cases c24 : a1 < 6
    ·rw [if_pos c24] at H
     have c24b0 : decide (a1 < 6) = true := decide_eq_true c24
     clear c24
     obtain ⟨ji25, hji25⟩ : ∃ j_ : Int, (mn a0_2 (wrap64 ((wrap64 (a0_0 + (wrap64 (Int.tdiv (wrap64 ((wrap64 (a0_0 * 5)) + 99)) 100)))) + 1000))) = j_ := ⟨_, rfl⟩
     replace H : ((lossy_Lossy_Update.f t149 t150 t151 t152 t153 (wrap64 (a1)) 0).bind fun bt163 => (if bt163.1 = (ji25) then ((flywheellaw20_wakes.f).bind fun t169 => (some t169)) else (some false))) = some r := by first | (rw [hji25] at H; exact H) | (simp only [hji25] at H ⊢; exact H)
     (try rw [hji25] at A4)
     have hji25_ : (if (wrap64 ((wrap64 (a0_0 + (wrap64 (Int.tdiv (wrap64 ((wrap64 (a0_0 * 5)) + 99)) 100)))) + 1000)) < a0_2 then (wrap64 ((wrap64 (a0_0 + (wrap64 (Int.tdiv (wrap64 ((wrap64 (a0_0 * 5)) + 99)) 100)))) + 1000)) else a0_2) = ji25 := hji25
     replace H := Option.bind_eq_some_iff.mp H
     obtain ⟨⟨t163, t164, t165, t166, t167, t168⟩, A260, H⟩ := H
     replace H : (if t163 = (ji25) then ((flywheellaw20_wakes.f).bind fun t169 => (some t169)) else (some false)) = some r := H
     have A26 := Aside0.mk A260
     clear A260
     by_cases c27 : t163 = (ji25)
     ·rw [if_pos c27] at H
      have c27b0 : (t163 == (ji25)) = true := beq_iff_eq.mpr c27
      have c27b1 : (t163 != (ji25)) = false := bne_eq_false_iff_eq.mpr c27
      clear c27
      replace H := Option.bind_eq_some_iff.mp H
      obtain ⟨t169, A280, H⟩ := H
      replace H : (some t169) = some r := H
      have A28 := Aside0.mk A280
      clear A280
      obtain rfl := Option.some.inj H
      go_enter Tryd.func3, Tryd.ntmps3
      go_wp2_with (first | ((with_reducible refine gate_dst (N := 2) rfl ?_); refine box_event ?hg (N := 2) ?hd (cs := #[.int .i64 a0_0, .int .i64 a0_1, .int .i64 a0_2]) (t := 23) ?hr ?_; (case hd => rfl); (case hg => rfl); (case hr => first | (go_simp; done) | (go_simp; rfl)); intro gb148 hg w29 hbox hb; have n0_ := Aside0.mk (below_step (by repeat (first | (with_reducible first | exact HB.out | apply below_alloc | apply pw_below_drewN | apply below_drew1) | exact HB.out)) hb); have n1_ := Aside0.mk (hbox); have n2_ := Aside0.mk ((by rw [hg]; exact (below_size (by repeat (first | (with_reducible first | exact HB.out | apply below_alloc | apply pw_below_drewN | apply below_drew1) | exact HB.out))) : w.heap.size ≤ gb148)); have n3_ := Aside0.mk ((by rw [hg]; exact (below_size (by repeat (first | (with_reducible first | exact HB.out | apply below_alloc | apply pw_below_drewN | apply below_drew1) | exact HB.out))) : w.heap.size ≤ gb148)); clear HB; have HB := n0_; have BK148 := n1_; have GW148 := n2_; have GE148 := n3_; clear n0_ n1_ n2_ n3_; clear hb hbox hg; have hcz30_0 : w29.cell? ⟨gb148, 0, none⟩ = some (.int .i64 a0_0) := (blk_cell BK148.out 0).trans rfl; have hcz30_1 : w29.cell? ⟨gb148, 1, none⟩ = some (.int .i64 a0_1) := (blk_cell BK148.out 1).trans rfl; have hcz30_2 : w29.cell? ⟨gb148, 2, none⟩ = some (.int .i64 a0_2) := (blk_cell BK148.out 2).trans rfl; have hfz30_0 := blk_frozen BK148.out 0; have hfz30_1 := blk_frozen BK148.out 1; have hfz30_2 := blk_frozen BK148.out 2) | ((with_reducible refine gate_callee (f := 7) rfl ?_); refine goesL_ (some 16) rfl rfl Tryd.func7 (by kernel_rfl) rfl #[.int .i64 a0_0, .int .i64 a0_1, .int .i64 a0_2] rfl (by (try simp only [List.map_toArray, List.map_cons, List.map_nil]); first | done | rfl | (simp only [List.length_drop, List.length_take]; rfl)) ?_; (with_reducible refine (lossy_New.made.calls a0_0 a0_1 a0_2 t149 t150 t151 t152 t153 t155 _ _ (Below.refl _ _) A4.out).mono ?_); rintro e w31 ⟨g154, rfl, hi, hb, hb2⟩; refine ⟨_, rfl, ?_⟩; have n0_ := Aside0.mk (blk_below (g := gb148) (o := .cells #[.int .i64 a0_0, .int .i64 a0_1, .int .i64 a0_2] 23 (0, 0)) (by (with_reducible repeat (first | refine blk_drewN ?_ _ | refine blk_drew ?_ | refine blk_alloc ?_ _)); exact BK148.out) hb2); have n1_ := Aside0.mk (below_step (by repeat (first | (with_reducible first | exact HB.out | apply below_alloc | apply pw_below_drewN | apply below_drew1 | refine below_set ?_ GE148.out) | exact HB.out)) hb2); have n2_ := Aside0.mk ((IsS42.rebase hi (below_size (by repeat (first | (with_reducible first | exact HB.out | apply below_alloc | apply pw_below_drewN | apply below_drew1 | refine below_set ?_ GE148.out) | exact HB.out))))); have n3_ := Aside0.mk (IsS42.ne_blk hi (blk_below (g := gb148) (o := .cells #[.int .i64 a0_0, .int .i64 a0_1, .int .i64 a0_2] 23 (0, 0)) (by (with_reducible repeat (first | refine blk_drewN ?_ _ | refine blk_drew ?_ | refine blk_alloc ?_ _)); exact BK148.out) hb2) (by decide)); have n4_ := Aside0.mk (Ne.symm (IsS42.ne_blk hi (blk_below (g := gb148) (o := .cells #[.int .i64 a0_0, .int .i64 a0_1, .int .i64 a0_2] 23 (0, 0)) (by (with_reducible repeat (first | refine blk_drewN ?_ _ | refine blk_drew ?_ | refine blk_alloc ?_ _)); exact BK148.out) hb2) (by decide))); clear BK148; clear HB; have BK148 := n0_; have HB := n1_; have HI154 := n2_; have NB154_148 := n3_; have NB148_154 := n4_; clear n0_ n1_ n2_ n3_ n4_; (try clear hb); (try clear hb2); (try clear hk); (try clear hi); have hnb32 := NB148_154.out; have hnc32 := NB154_148.out; have hcz33_0 : w31.cell? ⟨gb148, 0, none⟩ = some (.int .i64 a0_0) := (blk_cell BK148.out 0).trans rfl; have hcz33_1 : w31.cell? ⟨gb148, 1, none⟩ = some (.int .i64 a0_1) := (blk_cell BK148.out 1).trans rfl; have hcz33_2 : w31.cell? ⟨gb148, 2, none⟩ = some (.int .i64 a0_2) := (blk_cell BK148.out 2).trans rfl; have hfz33_0 := blk_frozen BK148.out 0; have hfz33_1 := blk_frozen BK148.out 1; have hfz33_2 := blk_frozen BK148.out 2) | ((with_reducible refine gate_callee (f := 9) rfl ?_); refine goesL_ (some 66) rfl rfl Tryd.func9 (by kernel_rfl) rfl #[.pointer (some ⟨g154, 0, none⟩), .int .i64 (wrap64 (a1)), .int .i64 0] rfl (by (try simp only [List.map_toArray, List.map_cons, List.map_nil]); first | done | rfl | (simp only [List.length_drop, List.length_take]; rfl)) ?_; (with_reducible refine (lossy_Lossy_Update.calls g154 t149 t150 t151 t152 t153 (wrap64 (a1)) 0 t163 t164 t165 t166 t167 t168 w _ ?side1 ?side2 ?sideG A26.out).mono ?_); (case sideG => first | exact HTB.out | exact GL.below HTB.out (by repeat (first | (with_reducible first | exact HB.out | apply below_alloc | apply pw_below_drewN | apply below_drew1) | exact HB.out))); (case side1 => repeat (first | (with_reducible first | exact HI154.out | apply IsS42.alloc | apply IsS42.drewN | apply IsS42.drew | apply IsS42.set_0 | apply IsS42.set_1 | apply IsS42.set_2 | apply IsS42.set_3 | apply IsS42.set_4 | refine IsS42.far ?_ NB154_148.out _) | exact HI154.out)); (case side2 => repeat (first | (with_reducible first | exact HB.out | apply below_alloc | apply pw_below_drewN | apply below_drew1 | refine below_set ?_ (IsS42.ge HI154.out) | refine below_set ?_ GE148.out) | exact HB.out)); rintro e w34 ⟨rfl, hi, hb, hk⟩; refine ⟨_, rfl, ?_⟩; have n0_ := Aside0.mk (KeepBut.blk hk (g' := gb148) (o := .cells #[.int .i64 a0_0, .int .i64 a0_1, .int .i64 a0_2] 23 (0, 0)) (by (with_reducible repeat (first | refine blk_drewN ?_ _ | refine blk_drew ?_ | refine blk_alloc ?_ _)); exact BK148.out) NB148_154.out (by simp)); have n1_ := Aside0.mk (hb); have n2_ := Aside0.mk (hi); clear BK148; clear HB; clear HI154; have BK148 := n0_; have HB := n1_; have HI154 := n2_; clear n0_ n1_ n2_; (try clear hb); (try clear hb2); (try clear hk); (try clear hi)) | (go_at_call 8; (with_reducible refine (flywheellaw20_wakes.calls  t169 _ ?sideG A28.out).mono ?_); (case sideG => first | exact HTB.out | exact GL.below HTB.out (by repeat (first | (with_reducible first | exact HB.out | apply below_alloc | apply pw_below_drewN | apply below_drew1 | refine below_set ?_ (IsS42.ge HI154.out) | refine below_set ?_ GE148.out) | exact HB.out))); rintro e w35 ⟨rfl, hb⟩; have n0_ := Aside0.mk (blk_below (g := gb148) (o := .cells #[.int .i64 a0_0, .int .i64 a0_1, .int .i64 a0_2] 23 (0, 0)) (by (with_reducible repeat (first | refine blk_drewN ?_ _ | refine blk_drew ?_ | refine blk_alloc ?_ _)); exact BK148.out) hb); have n1_ := Aside0.mk (IsS42.below (by repeat (first | (with_reducible first | exact HI154.out | apply IsS42.alloc | apply IsS42.drewN | apply IsS42.drew | apply IsS42.set_0 | apply IsS42.set_1 | apply IsS42.set_2 | apply IsS42.set_3 | apply IsS42.set_4 | refine IsS42.far ?_ NB154_148.out _) | exact HI154.out)) hb); have n2_ := Aside0.mk (below_step (by repeat (first | (with_reducible first | exact HB.out | apply below_alloc | apply pw_below_drewN | apply below_drew1 | refine below_set ?_ (IsS42.ge HI154.out) | refine below_set ?_ GE148.out) | exact HB.out)) hb); clear BK148; clear HI154; clear HB; have BK148 := n0_; have HI154 := n1_; have HB := n2_; clear n0_ n1_ n2_; (try clear hb); (try clear hb2); (try clear hk); (try clear hi)))
      go_ret
      exact ⟨by first | rfl | (simp [errW_none, errW_some] <;> rfl) | (simp only [← hji25]; first | rfl | (simp [errW_none, errW_some] <;> rfl)) | (simp [*, errW_none, errW_some] <;> rfl), by repeat (first | (with_reducible first | exact HB.out | apply below_alloc | apply pw_below_drewN | apply below_drew1 | refine below_set ?_ (IsS42.ge HI154.out) | refine below_set ?_ GE148.out) | exact HB.out)⟩
     ·rw [if_neg c27] at H
      have c27b0 : (t163 == (ji25)) = false := beq_eq_false_iff_ne.mpr c27
      have c27b1 : (t163 != (ji25)) = true := bne_iff_ne.mpr c27
      obtain rfl := Option.some.inj H
      go_enter Tryd.func3, Tryd.ntmps3
      go_wp2_with (first | ((with_reducible refine gate_dst (N := 2) rfl ?_); refine box_event ?hg (N := 2) ?hd (cs := #[.int .i64 a0_0, .int .i64 a0_1, .int .i64 a0_2]) (t := 23) ?hr ?_; (case hd => rfl); (case hg => rfl); (case hr => first | (go_simp; done) | (go_simp; rfl)); intro gb148 hg w36 hbox hb; have n0_ := Aside0.mk (below_step (by repeat (first | (with_reducible first | exact HB.out | apply below_alloc | apply pw_below_drewN | apply below_drew1) | exact HB.out)) hb); have n1_ := Aside0.mk (hbox); have n2_ := Aside0.mk ((by rw [hg]; exact (below_size (by repeat (first | (with_reducible first | exact HB.out | apply below_alloc | apply pw_below_drewN | apply below_drew1) | exact HB.out))) : w.heap.size ≤ gb148)); have n3_ := Aside0.mk ((by rw [hg]; exact (below_size (by repeat (first | (with_reducible first | exact HB.out | apply below_alloc | apply pw_below_drewN | apply below_drew1) | exact HB.out))) : w.heap.size ≤ gb148)); clear HB; have HB := n0_; have BK148 := n1_; have GW148 := n2_; have GE148 := n3_; clear n0_ n1_ n2_ n3_; clear hb hbox hg; have hcz37_0 : w36.cell? ⟨gb148, 0, none⟩ = some (.int .i64 a0_0) := (blk_cell BK148.out 0).trans rfl; have hcz37_1 : w36.cell? ⟨gb148, 1, none⟩ = some (.int .i64 a0_1) := (blk_cell BK148.out 1).trans rfl; have hcz37_2 : w36.cell? ⟨gb148, 2, none⟩ = some (.int .i64 a0_2) := (blk_cell BK148.out 2).trans rfl; have hfz37_0 := blk_frozen BK148.out 0; have hfz37_1 := blk_frozen BK148.out 1; have hfz37_2 := blk_frozen BK148.out 2) | ((with_reducible refine gate_callee (f := 7) rfl ?_); refine goesL_ (some 16) rfl rfl Tryd.func7 (by kernel_rfl) rfl #[.int .i64 a0_0, .int .i64 a0_1, .int .i64 a0_2] rfl (by (try simp only [List.map_toArray, List.map_cons, List.map_nil]); first | done | rfl | (simp only [List.length_drop, List.length_take]; rfl)) ?_; (with_reducible refine (lossy_New.made.calls a0_0 a0_1 a0_2 t149 t150 t151 t152 t153 t155 _ _ (Below.refl _ _) A4.out).mono ?_); rintro e w38 ⟨g154, rfl, hi, hb, hb2⟩; refine ⟨_, rfl, ?_⟩; have n0_ := Aside0.mk (blk_below (g := gb148) (o := .cells #[.int .i64 a0_0, .int .i64 a0_1, .int .i64 a0_2] 23 (0, 0)) (by (with_reducible repeat (first | refine blk_drewN ?_ _ | refine blk_drew ?_ | refine blk_alloc ?_ _)); exact BK148.out) hb2); have n1_ := Aside0.mk (below_step (by repeat (first | (with_reducible first | exact HB.out | apply below_alloc | apply pw_below_drewN | apply below_drew1 | refine below_set ?_ GE148.out) | exact HB.out)) hb2); have n2_ := Aside0.mk ((IsS42.rebase hi (below_size (by repeat (first | (with_reducible first | exact HB.out | apply below_alloc | apply pw_below_drewN | apply below_drew1 | refine below_set ?_ GE148.out) | exact HB.out))))); have n3_ := Aside0.mk (IsS42.ne_blk hi (blk_below (g := gb148) (o := .cells #[.int .i64 a0_0, .int .i64 a0_1, .int .i64 a0_2] 23 (0, 0)) (by (with_reducible repeat (first | refine blk_drewN ?_ _ | refine blk_drew ?_ | refine blk_alloc ?_ _)); exact BK148.out) hb2) (by decide)); have n4_ := Aside0.mk (Ne.symm (IsS42.ne_blk hi (blk_below (g := gb148) (o := .cells #[.int .i64 a0_0, .int .i64 a0_1, .int .i64 a0_2] 23 (0, 0)) (by (with_reducible repeat (first | refine blk_drewN ?_ _ | refine blk_drew ?_ | refine blk_alloc ?_ _)); exact BK148.out) hb2) (by decide))); clear BK148; clear HB; have BK148 := n0_; have HB := n1_; have HI154 := n2_; have NB154_148 := n3_; have NB148_154 := n4_; clear n0_ n1_ n2_ n3_ n4_; (try clear hb); (try clear hb2); (try clear hk); (try clear hi); have hnb39 := NB148_154.out; have hnc39 := NB154_148.out; have hcz40_0 : w38.cell? ⟨gb148, 0, none⟩ = some (.int .i64 a0_0) := (blk_cell BK148.out 0).trans rfl; have hcz40_1 : w38.cell? ⟨gb148, 1, none⟩ = some (.int .i64 a0_1) := (blk_cell BK148.out 1).trans rfl; have hcz40_2 : w38.cell? ⟨gb148, 2, none⟩ = some (.int .i64 a0_2) := (blk_cell BK148.out 2).trans rfl; have hfz40_0 := blk_frozen BK148.out 0; have hfz40_1 := blk_frozen BK148.out 1; have hfz40_2 := blk_frozen BK148.out 2) | ((with_reducible refine gate_callee (f := 9) rfl ?_); refine goesL_ (some 66) rfl rfl Tryd.func9 (by kernel_rfl) rfl #[.pointer (some ⟨g154, 0, none⟩), .int .i64 (wrap64 (a1)), .int .i64 0] rfl (by (try simp only [List.map_toArray, List.map_cons, List.map_nil]); first | done | rfl | (simp only [List.length_drop, List.length_take]; rfl)) ?_; (with_reducible refine (lossy_Lossy_Update.calls g154 t149 t150 t151 t152 t153 (wrap64 (a1)) 0 t163 t164 t165 t166 t167 t168 w _ ?side1 ?side2 ?sideG A26.out).mono ?_); (case sideG => first | exact HTB.out | exact GL.below HTB.out (by repeat (first | (with_reducible first | exact HB.out | apply below_alloc | apply pw_below_drewN | apply below_drew1) | exact HB.out))); (case side1 => repeat (first | (with_reducible first | exact HI154.out | apply IsS42.alloc | apply IsS42.drewN | apply IsS42.drew | apply IsS42.set_0 | apply IsS42.set_1 | apply IsS42.set_2 | apply IsS42.set_3 | apply IsS42.set_4 | refine IsS42.far ?_ NB154_148.out _) | exact HI154.out)); (case side2 => repeat (first | (with_reducible first | exact HB.out | apply below_alloc | apply pw_below_drewN | apply below_drew1 | refine below_set ?_ (IsS42.ge HI154.out) | refine below_set ?_ GE148.out) | exact HB.out)); rintro e w41 ⟨rfl, hi, hb, hk⟩; refine ⟨_, rfl, ?_⟩; have n0_ := Aside0.mk (KeepBut.blk hk (g' := gb148) (o := .cells #[.int .i64 a0_0, .int .i64 a0_1, .int .i64 a0_2] 23 (0, 0)) (by (with_reducible repeat (first | refine blk_drewN ?_ _ | refine blk_drew ?_ | refine blk_alloc ?_ _)); exact BK148.out) NB148_154.out (by simp)); have n1_ := Aside0.mk (hb); have n2_ := Aside0.mk (hi); clear BK148; clear HB; clear HI154; have BK148 := n0_; have HB := n1_; have HI154 := n2_; clear n0_ n1_ n2_; (try clear hb); (try clear hb2); (try clear hk); (try clear hi)))
      go_ret
      exact ⟨by first | rfl | (simp [errW_none, errW_some] <;> rfl) | (simp only [← hji25]; first | rfl | (simp [errW_none, errW_some] <;> rfl)) | (simp [*, errW_none, errW_some] <;> rfl), by repeat (first | (with_reducible first | exact HB.out | apply below_alloc | apply pw_below_drewN | apply below_drew1 | refine below_set ?_ (IsS42.ge HI154.out) | refine below_set ?_ GE148.out) | exact HB.out)⟩
    ·rw [if_neg c24] at H
     have c24b0 : decide (a1 < 6) = false := decide_eq_false c24
     clear c24
     replace H := Option.bind_eq_some_iff.mp H
     obtain ⟨⟨t170, t171, t172, t173, t174, t175⟩, A420, H⟩ := H
     replace H : (if t170 = a0_0 then ((flywheellaw20_wakes.f).bind fun t176 => (some t176)) else (some false)) = some r := H
     have A42 := Aside0.mk A420
     clear A420
     by_cases c43 : t170 = a0_0
     ·rw [if_pos c43] at H
      have c43b0 : (t170 == a0_0) = true := beq_iff_eq.mpr c43
      have c43b1 : (t170 != a0_0) = false := bne_eq_false_iff_eq.mpr c43
      clear c43
      replace H := Option.bind_eq_some_iff.mp H
      obtain ⟨t176, A440, H⟩ := H
      replace H : (some t176) = some r := H
      have A44 := Aside0.mk A440
      clear A440
      obtain rfl := Option.some.inj H
      go_enter Tryd.func3, Tryd.ntmps3
      go_wp2_with (first | ((with_reducible refine gate_dst (N := 2) rfl ?_); refine box_event ?hg (N := 2) ?hd (cs := #[.int .i64 a0_0, .int .i64 a0_1, .int .i64 a0_2]) (t := 23) ?hr ?_; (case hd => rfl); (case hg => rfl); (case hr => first | (go_simp; done) | (go_simp; rfl)); intro gb148 hg w45 hbox hb; have n0_ := Aside0.mk (below_step (by repeat (first | (with_reducible first | exact HB.out | apply below_alloc | apply pw_below_drewN | apply below_drew1) | exact HB.out)) hb); have n1_ := Aside0.mk (hbox); have n2_ := Aside0.mk ((by rw [hg]; exact (below_size (by repeat (first | (with_reducible first | exact HB.out | apply below_alloc | apply pw_below_drewN | apply below_drew1) | exact HB.out))) : w.heap.size ≤ gb148)); have n3_ := Aside0.mk ((by rw [hg]; exact (below_size (by repeat (first | (with_reducible first | exact HB.out | apply below_alloc | apply pw_below_drewN | apply below_drew1) | exact HB.out))) : w.heap.size ≤ gb148)); clear HB; have HB := n0_; have BK148 := n1_; have GW148 := n2_; have GE148 := n3_; clear n0_ n1_ n2_ n3_; clear hb hbox hg; have hcz46_0 : w45.cell? ⟨gb148, 0, none⟩ = some (.int .i64 a0_0) := (blk_cell BK148.out 0).trans rfl; have hcz46_1 : w45.cell? ⟨gb148, 1, none⟩ = some (.int .i64 a0_1) := (blk_cell BK148.out 1).trans rfl; have hcz46_2 : w45.cell? ⟨gb148, 2, none⟩ = some (.int .i64 a0_2) := (blk_cell BK148.out 2).trans rfl; have hfz46_0 := blk_frozen BK148.out 0; have hfz46_1 := blk_frozen BK148.out 1; have hfz46_2 := blk_frozen BK148.out 2) | ((with_reducible refine gate_callee (f := 7) rfl ?_); refine goesL_ (some 16) rfl rfl Tryd.func7 (by kernel_rfl) rfl #[.int .i64 a0_0, .int .i64 a0_1, .int .i64 a0_2] rfl (by (try simp only [List.map_toArray, List.map_cons, List.map_nil]); first | done | rfl | (simp only [List.length_drop, List.length_take]; rfl)) ?_; (with_reducible refine (lossy_New.made.calls a0_0 a0_1 a0_2 t149 t150 t151 t152 t153 t155 _ _ (Below.refl _ _) A4.out).mono ?_); rintro e w47 ⟨g154, rfl, hi, hb, hb2⟩; refine ⟨_, rfl, ?_⟩; have n0_ := Aside0.mk (blk_below (g := gb148) (o := .cells #[.int .i64 a0_0, .int .i64 a0_1, .int .i64 a0_2] 23 (0, 0)) (by (with_reducible repeat (first | refine blk_drewN ?_ _ | refine blk_drew ?_ | refine blk_alloc ?_ _)); exact BK148.out) hb2); have n1_ := Aside0.mk (below_step (by repeat (first | (with_reducible first | exact HB.out | apply below_alloc | apply pw_below_drewN | apply below_drew1 | refine below_set ?_ GE148.out) | exact HB.out)) hb2); have n2_ := Aside0.mk ((IsS42.rebase hi (below_size (by repeat (first | (with_reducible first | exact HB.out | apply below_alloc | apply pw_below_drewN | apply below_drew1 | refine below_set ?_ GE148.out) | exact HB.out))))); have n3_ := Aside0.mk (IsS42.ne_blk hi (blk_below (g := gb148) (o := .cells #[.int .i64 a0_0, .int .i64 a0_1, .int .i64 a0_2] 23 (0, 0)) (by (with_reducible repeat (first | refine blk_drewN ?_ _ | refine blk_drew ?_ | refine blk_alloc ?_ _)); exact BK148.out) hb2) (by decide)); have n4_ := Aside0.mk (Ne.symm (IsS42.ne_blk hi (blk_below (g := gb148) (o := .cells #[.int .i64 a0_0, .int .i64 a0_1, .int .i64 a0_2] 23 (0, 0)) (by (with_reducible repeat (first | refine blk_drewN ?_ _ | refine blk_drew ?_ | refine blk_alloc ?_ _)); exact BK148.out) hb2) (by decide))); clear BK148; clear HB; have BK148 := n0_; have HB := n1_; have HI154 := n2_; have NB154_148 := n3_; have NB148_154 := n4_; clear n0_ n1_ n2_ n3_ n4_; (try clear hb); (try clear hb2); (try clear hk); (try clear hi); have hnb48 := NB148_154.out; have hnc48 := NB154_148.out; have hcz49_0 : w47.cell? ⟨gb148, 0, none⟩ = some (.int .i64 a0_0) := (blk_cell BK148.out 0).trans rfl; have hcz49_1 : w47.cell? ⟨gb148, 1, none⟩ = some (.int .i64 a0_1) := (blk_cell BK148.out 1).trans rfl; have hcz49_2 : w47.cell? ⟨gb148, 2, none⟩ = some (.int .i64 a0_2) := (blk_cell BK148.out 2).trans rfl; have hfz49_0 := blk_frozen BK148.out 0; have hfz49_1 := blk_frozen BK148.out 1; have hfz49_2 := blk_frozen BK148.out 2) | ((with_reducible refine gate_callee (f := 9) rfl ?_); refine goesL_ (some 66) rfl rfl Tryd.func9 (by kernel_rfl) rfl #[.pointer (some ⟨g154, 0, none⟩), .int .i64 (wrap64 (a1)), .int .i64 0] rfl (by (try simp only [List.map_toArray, List.map_cons, List.map_nil]); first | done | rfl | (simp only [List.length_drop, List.length_take]; rfl)) ?_; (with_reducible refine (lossy_Lossy_Update.calls g154 t149 t150 t151 t152 t153 (wrap64 (a1)) 0 t170 t171 t172 t173 t174 t175 w _ ?side1 ?side2 ?sideG A42.out).mono ?_); (case sideG => first | exact HTB.out | exact GL.below HTB.out (by repeat (first | (with_reducible first | exact HB.out | apply below_alloc | apply pw_below_drewN | apply below_drew1) | exact HB.out))); (case side1 => repeat (first | (with_reducible first | exact HI154.out | apply IsS42.alloc | apply IsS42.drewN | apply IsS42.drew | apply IsS42.set_0 | apply IsS42.set_1 | apply IsS42.set_2 | apply IsS42.set_3 | apply IsS42.set_4 | refine IsS42.far ?_ NB154_148.out _) | exact HI154.out)); (case side2 => repeat (first | (with_reducible first | exact HB.out | apply below_alloc | apply pw_below_drewN | apply below_drew1 | refine below_set ?_ (IsS42.ge HI154.out) | refine below_set ?_ GE148.out) | exact HB.out)); rintro e w50 ⟨rfl, hi, hb, hk⟩; refine ⟨_, rfl, ?_⟩; have n0_ := Aside0.mk (KeepBut.blk hk (g' := gb148) (o := .cells #[.int .i64 a0_0, .int .i64 a0_1, .int .i64 a0_2] 23 (0, 0)) (by (with_reducible repeat (first | refine blk_drewN ?_ _ | refine blk_drew ?_ | refine blk_alloc ?_ _)); exact BK148.out) NB148_154.out (by simp)); have n1_ := Aside0.mk (hb); have n2_ := Aside0.mk (hi); clear BK148; clear HB; clear HI154; have BK148 := n0_; have HB := n1_; have HI154 := n2_; clear n0_ n1_ n2_; (try clear hb); (try clear hb2); (try clear hk); (try clear hi)) | (go_at_call 8; (with_reducible refine (flywheellaw20_wakes.calls  t176 _ ?sideG A44.out).mono ?_); (case sideG => first | exact HTB.out | exact GL.below HTB.out (by repeat (first | (with_reducible first | exact HB.out | apply below_alloc | apply pw_below_drewN | apply below_drew1 | refine below_set ?_ (IsS42.ge HI154.out) | refine below_set ?_ GE148.out) | exact HB.out))); rintro e w51 ⟨rfl, hb⟩; have n0_ := Aside0.mk (blk_below (g := gb148) (o := .cells #[.int .i64 a0_0, .int .i64 a0_1, .int .i64 a0_2] 23 (0, 0)) (by (with_reducible repeat (first | refine blk_drewN ?_ _ | refine blk_drew ?_ | refine blk_alloc ?_ _)); exact BK148.out) hb); have n1_ := Aside0.mk (IsS42.below (by repeat (first | (with_reducible first | exact HI154.out | apply IsS42.alloc | apply IsS42.drewN | apply IsS42.drew | apply IsS42.set_0 | apply IsS42.set_1 | apply IsS42.set_2 | apply IsS42.set_3 | apply IsS42.set_4 | refine IsS42.far ?_ NB154_148.out _) | exact HI154.out)) hb); have n2_ := Aside0.mk (below_step (by repeat (first | (with_reducible first | exact HB.out | apply below_alloc | apply pw_below_drewN | apply below_drew1 | refine below_set ?_ (IsS42.ge HI154.out) | refine below_set ?_ GE148.out) | exact HB.out)) hb); clear BK148; clear HI154; clear HB; have BK148 := n0_; have HI154 := n1_; have HB := n2_; clear n0_ n1_ n2_; (try clear hb); (try clear hb2); (try clear hk); (try clear hi)))
      go_ret
      exact ⟨by first | rfl | (simp [errW_none, errW_some] <;> rfl) | (simp [*, errW_none, errW_some] <;> rfl), by repeat (first | (with_reducible first | exact HB.out | apply below_alloc | apply pw_below_drewN | apply below_drew1 | refine below_set ?_ (IsS42.ge HI154.out) | refine below_set ?_ GE148.out) | exact HB.out)⟩
     ·rw [if_neg c43] at H
      have c43b0 : (t170 == a0_0) = false := beq_eq_false_iff_ne.mpr c43
      have c43b1 : (t170 != a0_0) = true := bne_iff_ne.mpr c43
      obtain rfl := Option.some.inj H
      go_enter Tryd.func3, Tryd.ntmps3
      go_wp2_with (first | ((with_reducible refine gate_dst (N := 2) rfl ?_); refine box_event ?hg (N := 2) ?hd (cs := #[.int .i64 a0_0, .int .i64 a0_1, .int .i64 a0_2]) (t := 23) ?hr ?_; (case hd => rfl); (case hg => rfl); (case hr => first | (go_simp; done) | (go_simp; rfl)); intro gb148 hg w52 hbox hb; have n0_ := Aside0.mk (below_step (by repeat (first | (with_reducible first | exact HB.out | apply below_alloc | apply pw_below_drewN | apply below_drew1) | exact HB.out)) hb); have n1_ := Aside0.mk (hbox); have n2_ := Aside0.mk ((by rw [hg]; exact (below_size (by repeat (first | (with_reducible first | exact HB.out | apply below_alloc | apply pw_below_drewN | apply below_drew1) | exact HB.out))) : w.heap.size ≤ gb148)); have n3_ := Aside0.mk ((by rw [hg]; exact (below_size (by repeat (first | (with_reducible first | exact HB.out | apply below_alloc | apply pw_below_drewN | apply below_drew1) | exact HB.out))) : w.heap.size ≤ gb148)); clear HB; have HB := n0_; have BK148 := n1_; have GW148 := n2_; have GE148 := n3_; clear n0_ n1_ n2_ n3_; clear hb hbox hg; have hcz53_0 : w52.cell? ⟨gb148, 0, none⟩ = some (.int .i64 a0_0) := (blk_cell BK148.out 0).trans rfl; have hcz53_1 : w52.cell? ⟨gb148, 1, none⟩ = some (.int .i64 a0_1) := (blk_cell BK148.out 1).trans rfl; have hcz53_2 : w52.cell? ⟨gb148, 2, none⟩ = some (.int .i64 a0_2) := (blk_cell BK148.out 2).trans rfl; have hfz53_0 := blk_frozen BK148.out 0; have hfz53_1 := blk_frozen BK148.out 1; have hfz53_2 := blk_frozen BK148.out 2) | ((with_reducible refine gate_callee (f := 7) rfl ?_); refine goesL_ (some 16) rfl rfl Tryd.func7 (by kernel_rfl) rfl #[.int .i64 a0_0, .int .i64 a0_1, .int .i64 a0_2] rfl (by (try simp only [List.map_toArray, List.map_cons, List.map_nil]); first | done | rfl | (simp only [List.length_drop, List.length_take]; rfl)) ?_; (with_reducible refine (lossy_New.made.calls a0_0 a0_1 a0_2 t149 t150 t151 t152 t153 t155 _ _ (Below.refl _ _) A4.out).mono ?_); rintro e w54 ⟨g154, rfl, hi, hb, hb2⟩; refine ⟨_, rfl, ?_⟩; have n0_ := Aside0.mk (blk_below (g := gb148) (o := .cells #[.int .i64 a0_0, .int .i64 a0_1, .int .i64 a0_2] 23 (0, 0)) (by (with_reducible repeat (first | refine blk_drewN ?_ _ | refine blk_drew ?_ | refine blk_alloc ?_ _)); exact BK148.out) hb2); have n1_ := Aside0.mk (below_step (by repeat (first | (with_reducible first | exact HB.out | apply below_alloc | apply pw_below_drewN | apply below_drew1 | refine below_set ?_ GE148.out) | exact HB.out)) hb2); have n2_ := Aside0.mk ((IsS42.rebase hi (below_size (by repeat (first | (with_reducible first | exact HB.out | apply below_alloc | apply pw_below_drewN | apply below_drew1 | refine below_set ?_ GE148.out) | exact HB.out))))); have n3_ := Aside0.mk (IsS42.ne_blk hi (blk_below (g := gb148) (o := .cells #[.int .i64 a0_0, .int .i64 a0_1, .int .i64 a0_2] 23 (0, 0)) (by (with_reducible repeat (first | refine blk_drewN ?_ _ | refine blk_drew ?_ | refine blk_alloc ?_ _)); exact BK148.out) hb2) (by decide)); have n4_ := Aside0.mk (Ne.symm (IsS42.ne_blk hi (blk_below (g := gb148) (o := .cells #[.int .i64 a0_0, .int .i64 a0_1, .int .i64 a0_2] 23 (0, 0)) (by (with_reducible repeat (first | refine blk_drewN ?_ _ | refine blk_drew ?_ | refine blk_alloc ?_ _)); exact BK148.out) hb2) (by decide))); clear BK148; clear HB; have BK148 := n0_; have HB := n1_; have HI154 := n2_; have NB154_148 := n3_; have NB148_154 := n4_; clear n0_ n1_ n2_ n3_ n4_; (try clear hb); (try clear hb2); (try clear hk); (try clear hi); have hnb55 := NB148_154.out; have hnc55 := NB154_148.out; have hcz56_0 : w54.cell? ⟨gb148, 0, none⟩ = some (.int .i64 a0_0) := (blk_cell BK148.out 0).trans rfl; have hcz56_1 : w54.cell? ⟨gb148, 1, none⟩ = some (.int .i64 a0_1) := (blk_cell BK148.out 1).trans rfl; have hcz56_2 : w54.cell? ⟨gb148, 2, none⟩ = some (.int .i64 a0_2) := (blk_cell BK148.out 2).trans rfl; have hfz56_0 := blk_frozen BK148.out 0; have hfz56_1 := blk_frozen BK148.out 1; have hfz56_2 := blk_frozen BK148.out 2) | ((with_reducible refine gate_callee (f := 9) rfl ?_); refine goesL_ (some 66) rfl rfl Tryd.func9 (by kernel_rfl) rfl #[.pointer (some ⟨g154, 0, none⟩), .int .i64 (wrap64 (a1)), .int .i64 0] rfl (by (try simp only [List.map_toArray, List.map_cons, List.map_nil]); first | done | rfl | (simp only [List.length_drop, List.length_take]; rfl)) ?_; (with_reducible refine (lossy_Lossy_Update.calls g154 t149 t150 t151 t152 t153 (wrap64 (a1)) 0 t170 t171 t172 t173 t174 t175 w _ ?side1 ?side2 ?sideG A42.out).mono ?_); (case sideG => first | exact HTB.out | exact GL.below HTB.out (by repeat (first | (with_reducible first | exact HB.out | apply below_alloc | apply pw_below_drewN | apply below_drew1) | exact HB.out))); (case side1 => repeat (first | (with_reducible first | exact HI154.out | apply IsS42.alloc | apply IsS42.drewN | apply IsS42.drew | apply IsS42.set_0 | apply IsS42.set_1 | apply IsS42.set_2 | apply IsS42.set_3 | apply IsS42.set_4 | refine IsS42.far ?_ NB154_148.out _) | exact HI154.out)); (case side2 => repeat (first | (with_reducible first | exact HB.out | apply below_alloc | apply pw_below_drewN | apply below_drew1 | refine below_set ?_ (IsS42.ge HI154.out) | refine below_set ?_ GE148.out) | exact HB.out)); rintro e w57 ⟨rfl, hi, hb, hk⟩; refine ⟨_, rfl, ?_⟩; have n0_ := Aside0.mk (KeepBut.blk hk (g' := gb148) (o := .cells #[.int .i64 a0_0, .int .i64 a0_1, .int .i64 a0_2] 23 (0, 0)) (by (with_reducible repeat (first | refine blk_drewN ?_ _ | refine blk_drew ?_ | refine blk_alloc ?_ _)); exact BK148.out) NB148_154.out (by simp)); have n1_ := Aside0.mk (hb); have n2_ := Aside0.mk (hi); clear BK148; clear HB; clear HI154; have BK148 := n0_; have HB := n1_; have HI154 := n2_; clear n0_ n1_ n2_; (try clear hb); (try clear hb2); (try clear hk); (try clear hi)))
      go_ret
      exact ⟨by first | rfl | (simp [errW_none, errW_some] <;> rfl) | (simp [*, errW_none, errW_some] <;> rfl), by repeat (first | (with_reducible first | exact HB.out | apply below_alloc | apply pw_below_drewN | apply below_drew1 | refine below_set ?_ (IsS42.ge HI154.out) | refine below_set ?_ GE148.out) | exact HB.out)⟩
  ·rw [if_neg c5] at H
   have c5b0 : (t155 == 0) = false := beq_eq_false_iff_ne.mpr c5
   have c5b1 : (t155 != 0) = true := bne_iff_ne.mpr c5
   obtain rfl := Option.some.inj H
   go_enter Tryd.func3, Tryd.ntmps3
   go_wp2_with (first | ((with_reducible refine gate_dst (N := 2) rfl ?_); refine box_event ?hg (N := 2) ?hd (cs := #[.int .i64 a0_0, .int .i64 a0_1, .int .i64 a0_2]) (t := 23) ?hr ?_; (case hd => rfl); (case hg => rfl); (case hr => first | (go_simp; done) | (go_simp; rfl)); intro gb148 hg w58 hbox hb; have n0_ := Aside0.mk (below_step (by repeat (first | (with_reducible first | exact HB.out | apply below_alloc | apply pw_below_drewN | apply below_drew1) | exact HB.out)) hb); have n1_ := Aside0.mk (hbox); have n2_ := Aside0.mk ((by rw [hg]; exact (below_size (by repeat (first | (with_reducible first | exact HB.out | apply below_alloc | apply pw_below_drewN | apply below_drew1) | exact HB.out))) : w.heap.size ≤ gb148)); have n3_ := Aside0.mk ((by rw [hg]; exact (below_size (by repeat (first | (with_reducible first | exact HB.out | apply below_alloc | apply pw_below_drewN | apply below_drew1) | exact HB.out))) : w.heap.size ≤ gb148)); clear HB; have HB := n0_; have BK148 := n1_; have GW148 := n2_; have GE148 := n3_; clear n0_ n1_ n2_ n3_; clear hb hbox hg; have hcz59_0 : w58.cell? ⟨gb148, 0, none⟩ = some (.int .i64 a0_0) := (blk_cell BK148.out 0).trans rfl; have hcz59_1 : w58.cell? ⟨gb148, 1, none⟩ = some (.int .i64 a0_1) := (blk_cell BK148.out 1).trans rfl; have hcz59_2 : w58.cell? ⟨gb148, 2, none⟩ = some (.int .i64 a0_2) := (blk_cell BK148.out 2).trans rfl; have hfz59_0 := blk_frozen BK148.out 0; have hfz59_1 := blk_frozen BK148.out 1; have hfz59_2 := blk_frozen BK148.out 2) | ((with_reducible refine gate_callee (f := 7) rfl ?_); refine goesL_ (some 16) rfl rfl Tryd.func7 (by kernel_rfl) rfl #[.int .i64 a0_0, .int .i64 a0_1, .int .i64 a0_2] rfl (by (try simp only [List.map_toArray, List.map_cons, List.map_nil]); first | done | rfl | (simp only [List.length_drop, List.length_take]; rfl)) ?_; (with_reducible refine (lossy_New.made.calls a0_0 a0_1 a0_2 t149 t150 t151 t152 t153 t155 _ _ (Below.refl _ _) A4.out).mono ?_); rintro e w60 ⟨g154, rfl, hi, hb, hb2⟩; refine ⟨_, rfl, ?_⟩; have n0_ := Aside0.mk (blk_below (g := gb148) (o := .cells #[.int .i64 a0_0, .int .i64 a0_1, .int .i64 a0_2] 23 (0, 0)) (by (with_reducible repeat (first | refine blk_drewN ?_ _ | refine blk_drew ?_ | refine blk_alloc ?_ _)); exact BK148.out) hb2); have n1_ := Aside0.mk (below_step (by repeat (first | (with_reducible first | exact HB.out | apply below_alloc | apply pw_below_drewN | apply below_drew1 | refine below_set ?_ GE148.out) | exact HB.out)) hb2); have n2_ := Aside0.mk ((IsS42.rebase hi (below_size (by repeat (first | (with_reducible first | exact HB.out | apply below_alloc | apply pw_below_drewN | apply below_drew1 | refine below_set ?_ GE148.out) | exact HB.out))))); have n3_ := Aside0.mk (IsS42.ne_blk hi (blk_below (g := gb148) (o := .cells #[.int .i64 a0_0, .int .i64 a0_1, .int .i64 a0_2] 23 (0, 0)) (by (with_reducible repeat (first | refine blk_drewN ?_ _ | refine blk_drew ?_ | refine blk_alloc ?_ _)); exact BK148.out) hb2) (by decide)); have n4_ := Aside0.mk (Ne.symm (IsS42.ne_blk hi (blk_below (g := gb148) (o := .cells #[.int .i64 a0_0, .int .i64 a0_1, .int .i64 a0_2] 23 (0, 0)) (by (with_reducible repeat (first | refine blk_drewN ?_ _ | refine blk_drew ?_ | refine blk_alloc ?_ _)); exact BK148.out) hb2) (by decide))); clear BK148; clear HB; have BK148 := n0_; have HB := n1_; have HI154 := n2_; have NB154_148 := n3_; have NB148_154 := n4_; clear n0_ n1_ n2_ n3_ n4_; (try clear hb); (try clear hb2); (try clear hk); (try clear hi)))
   go_ret
   exact ⟨by first | rfl | (simp [errW_none, errW_some] <;> rfl) | (simp [*, errW_none, errW_some] <;> rfl), by repeat (first | (with_reducible first | exact HB.out | apply below_alloc | apply pw_below_drewN | apply below_drew1 | refine below_set ?_ (IsS42.ge HI154.out) | refine below_set ?_ GE148.out) | exact HB.out)⟩
 ·rw [if_neg c3] at H
  have c3b0 : (lossy_New.made.f a0_0 a0_1 a0_2).isSome = false := by simpa using c3
  clear c3
  replace H := Option.bind_eq_some_iff.mp H
  obtain ⟨t177, A610, H⟩ := H
  replace H : (if t177 = 0 then (if a1 > 26 then ((lossy_Lossy_Update.nilrecv.f (wrap64 (a1)) 0).bind fun t179 => (if t179 = (mx a0_1 (wrap64 ((wrap64 ((wrap64 (Int.tdiv a0_0 512)) * (wrap64 (512 - (wrap64 (a1)))))) + (wrap64 (Int.tdiv (wrap64 ((Int.tmod a0_0 512) * (wrap64 (512 - (wrap64 (a1)))))) 512))))) then ((flywheellaw20_wakes.f).bind fun t180 => (some t180)) else (some false))) else (if a1 < 6 then ((lossy_Lossy_Update.nilrecv.f (wrap64 (a1)) 0).bind fun t181 => (if t181 = (mn a0_2 (wrap64 ((wrap64 (a0_0 + (wrap64 (Int.tdiv (wrap64 ((wrap64 (a0_0 * 5)) + 99)) 100)))) + 1000))) then ((flywheellaw20_wakes.f).bind fun t182 => (some t182)) else (some false))) else ((lossy_Lossy_Update.nilrecv.f (wrap64 (a1)) 0).bind fun t183 => (if t183 = a0_0 then ((flywheellaw20_wakes.f).bind fun t184 => (some t184)) else (some false))))) else ((flywheellaw20_wakes.f).bind fun t178 => (some t178))) = some r := H
  have A61 := Aside0.mk A610
  clear A610
  by_cases c62 : t177 = 0
  ·rw [if_pos c62] at H
   have c62b0 : (t177 == 0) = true := beq_iff_eq.mpr c62
   have c62b1 : (t177 != 0) = false := bne_eq_false_iff_eq.mpr c62
   clear c62
   by_cases c63 : a1 > 26
   ·rw [if_pos c63] at H
    have c63b0 : decide (26 < a1) = true := decide_eq_true c63
    clear c63
    obtain ⟨ji64, hji64⟩ : ∃ j_ : Int, (mx a0_1 (wrap64 ((wrap64 ((wrap64 (Int.tdiv a0_0 512)) * (wrap64 (512 - (wrap64 (a1)))))) + (wrap64 (Int.tdiv (wrap64 ((Int.tmod a0_0 512) * (wrap64 (512 - (wrap64 (a1)))))) 512))))) = j_ := ⟨_, rfl⟩
    replace H : ((lossy_Lossy_Update.nilrecv.f (wrap64 (a1)) 0).bind fun t179 => (if t179 = (ji64) then ((flywheellaw20_wakes.f).bind fun t180 => (some t180)) else (some false))) = some r := by first | (rw [hji64] at H; exact H) | (simp only [hji64] at H ⊢; exact H)
    (try rw [hji64] at A61)
    have hji64_ : (if a0_1 < (wrap64 ((wrap64 ((wrap64 (Int.tdiv a0_0 512)) * (wrap64 (512 - (wrap64 (a1)))))) + (wrap64 (Int.tdiv (wrap64 ((Int.tmod a0_0 512) * (wrap64 (512 - (wrap64 (a1)))))) 512)))) then (wrap64 ((wrap64 ((wrap64 (Int.tdiv a0_0 512)) * (wrap64 (512 - (wrap64 (a1)))))) + (wrap64 (Int.tdiv (wrap64 ((Int.tmod a0_0 512) * (wrap64 (512 - (wrap64 (a1)))))) 512)))) else a0_1) = ji64 := hji64
    replace H := Option.bind_eq_some_iff.mp H
    obtain ⟨t179, A650, H⟩ := H
    replace H : (if t179 = (ji64) then ((flywheellaw20_wakes.f).bind fun t180 => (some t180)) else (some false)) = some r := H
    have A65 := Aside0.mk A650
    clear A650
    by_cases c66 : t179 = (ji64)
    ·rw [if_pos c66] at H
     have c66b0 : (t179 == (ji64)) = true := beq_iff_eq.mpr c66
     have c66b1 : (t179 != (ji64)) = false := bne_eq_false_iff_eq.mpr c66
     clear c66
     replace H := Option.bind_eq_some_iff.mp H
     obtain ⟨t180, A670, H⟩ := H
     replace H : (some t180) = some r := H
     have A67 := Aside0.mk A670
     clear A670
     obtain rfl := Option.some.inj H
     go_enter Tryd.func3, Tryd.ntmps3
     go_wp2_with (first | ((with_reducible refine gate_dst (N := 2) rfl ?_); refine box_event ?hg (N := 2) ?hd (cs := #[.int .i64 a0_0, .int .i64 a0_1, .int .i64 a0_2]) (t := 23) ?hr ?_; (case hd => rfl); (case hg => rfl); (case hr => first | (go_simp; done) | (go_simp; rfl)); intro gb148 hg w68 hbox hb; have n0_ := Aside0.mk (below_step (by repeat (first | (with_reducible first | exact HB.out | apply below_alloc | apply pw_below_drewN | apply below_drew1) | exact HB.out)) hb); have n1_ := Aside0.mk (hbox); have n2_ := Aside0.mk ((by rw [hg]; exact (below_size (by repeat (first | (with_reducible first | exact HB.out | apply below_alloc | apply pw_below_drewN | apply below_drew1) | exact HB.out))) : w.heap.size ≤ gb148)); have n3_ := Aside0.mk ((by rw [hg]; exact (below_size (by repeat (first | (with_reducible first | exact HB.out | apply below_alloc | apply pw_below_drewN | apply below_drew1) | exact HB.out))) : w.heap.size ≤ gb148)); clear HB; have HB := n0_; have BK148 := n1_; have GW148 := n2_; have GE148 := n3_; clear n0_ n1_ n2_ n3_; clear hb hbox hg; have hcz69_0 : w68.cell? ⟨gb148, 0, none⟩ = some (.int .i64 a0_0) := (blk_cell BK148.out 0).trans rfl; have hcz69_1 : w68.cell? ⟨gb148, 1, none⟩ = some (.int .i64 a0_1) := (blk_cell BK148.out 1).trans rfl; have hcz69_2 : w68.cell? ⟨gb148, 2, none⟩ = some (.int .i64 a0_2) := (blk_cell BK148.out 2).trans rfl; have hfz69_0 := blk_frozen BK148.out 0; have hfz69_1 := blk_frozen BK148.out 1; have hfz69_2 := blk_frozen BK148.out 2) | ((with_reducible refine gate_callee (f := 7) rfl ?_); refine goesL_ (some 16) rfl rfl Tryd.func7 (by kernel_rfl) rfl #[.int .i64 a0_0, .int .i64 a0_1, .int .i64 a0_2] rfl (by (try simp only [List.map_toArray, List.map_cons, List.map_nil]); first | done | rfl | (simp only [List.length_drop, List.length_take]; rfl)) ?_; (with_reducible refine (lossy_New.nil.calls a0_0 a0_1 a0_2 t177 _ A61.out).mono ?_); rintro e w70 ⟨rfl, hb⟩; refine ⟨_, rfl, ?_⟩; have n0_ := Aside0.mk (blk_below (g := gb148) (o := .cells #[.int .i64 a0_0, .int .i64 a0_1, .int .i64 a0_2] 23 (0, 0)) (by (with_reducible repeat (first | refine blk_drewN ?_ _ | refine blk_drew ?_ | refine blk_alloc ?_ _)); exact BK148.out) hb); have n1_ := Aside0.mk (below_step (by repeat (first | (with_reducible first | exact HB.out | apply below_alloc | apply pw_below_drewN | apply below_drew1 | refine below_set ?_ GE148.out) | exact HB.out)) hb); clear BK148; clear HB; have BK148 := n0_; have HB := n1_; clear n0_ n1_; (try clear hb); (try clear hb2); (try clear hk); (try clear hi); have hcz71_0 : w70.cell? ⟨gb148, 0, none⟩ = some (.int .i64 a0_0) := (blk_cell BK148.out 0).trans rfl; have hcz71_1 : w70.cell? ⟨gb148, 1, none⟩ = some (.int .i64 a0_1) := (blk_cell BK148.out 1).trans rfl; have hcz71_2 : w70.cell? ⟨gb148, 2, none⟩ = some (.int .i64 a0_2) := (blk_cell BK148.out 2).trans rfl; have hfz71_0 := blk_frozen BK148.out 0; have hfz71_1 := blk_frozen BK148.out 1; have hfz71_2 := blk_frozen BK148.out 2) | ((with_reducible refine gate_callee (f := 9) rfl ?_); refine goesL_ (some 66) rfl rfl Tryd.func9 (by kernel_rfl) rfl #[.pointer none, .int .i64 (wrap64 (a1)), .int .i64 0] rfl (by (try simp only [List.map_toArray, List.map_cons, List.map_nil]); first | done | rfl | (simp only [List.length_drop, List.length_take]; rfl)) ?_; (with_reducible refine (lossy_Lossy_Update.nilrecv.calls  (wrap64 (a1)) 0 t179 _ A65.out).mono ?_); rintro e w72 ⟨rfl, hb⟩; refine ⟨_, rfl, ?_⟩; have n0_ := Aside0.mk (blk_below (g := gb148) (o := .cells #[.int .i64 a0_0, .int .i64 a0_1, .int .i64 a0_2] 23 (0, 0)) (by (with_reducible repeat (first | refine blk_drewN ?_ _ | refine blk_drew ?_ | refine blk_alloc ?_ _)); exact BK148.out) hb); have n1_ := Aside0.mk (below_step (by repeat (first | (with_reducible first | exact HB.out | apply below_alloc | apply pw_below_drewN | apply below_drew1 | refine below_set ?_ GE148.out) | exact HB.out)) hb); clear BK148; clear HB; have BK148 := n0_; have HB := n1_; clear n0_ n1_; (try clear hb); (try clear hb2); (try clear hk); (try clear hi)) | (go_at_call 8; (with_reducible refine (flywheellaw20_wakes.calls  t180 _ ?sideG A67.out).mono ?_); (case sideG => first | exact HTB.out | exact GL.below HTB.out (by repeat (first | (with_reducible first | exact HB.out | apply below_alloc | apply pw_below_drewN | apply below_drew1 | refine below_set ?_ GE148.out) | exact HB.out))); rintro e w73 ⟨rfl, hb⟩; have n0_ := Aside0.mk (blk_below (g := gb148) (o := .cells #[.int .i64 a0_0, .int .i64 a0_1, .int .i64 a0_2] 23 (0, 0)) (by (with_reducible repeat (first | refine blk_drewN ?_ _ | refine blk_drew ?_ | refine blk_alloc ?_ _)); exact BK148.out) hb); have n1_ := Aside0.mk (below_step (by repeat (first | (with_reducible first | exact HB.out | apply below_alloc | apply pw_below_drewN | apply below_drew1 | refine below_set ?_ GE148.out) | exact HB.out)) hb); clear BK148; clear HB; have BK148 := n0_; have HB := n1_; clear n0_ n1_; (try clear hb); (try clear hb2); (try clear hk); (try clear hi)))
     go_ret
     exact ⟨by first | rfl | (simp [errW_none, errW_some] <;> rfl) | (simp only [← hji64]; first | rfl | (simp [errW_none, errW_some] <;> rfl)) | (simp [*, errW_none, errW_some] <;> rfl), by repeat (first | (with_reducible first | exact HB.out | apply below_alloc | apply pw_below_drewN | apply below_drew1 | refine below_set ?_ GE148.out) | exact HB.out)⟩
    ·rw [if_neg c66] at H
     have c66b0 : (t179 == (ji64)) = false := beq_eq_false_iff_ne.mpr c66
     have c66b1 : (t179 != (ji64)) = true := bne_iff_ne.mpr c66
     obtain rfl := Option.some.inj H
     go_enter Tryd.func3, Tryd.ntmps3
     go_wp2_with (first | ((with_reducible refine gate_dst (N := 2) rfl ?_); refine box_event ?hg (N := 2) ?hd (cs := #[.int .i64 a0_0, .int .i64 a0_1, .int .i64 a0_2]) (t := 23) ?hr ?_; (case hd => rfl); (case hg => rfl); (case hr => first | (go_simp; done) | (go_simp; rfl)); intro gb148 hg w74 hbox hb; have n0_ := Aside0.mk (below_step (by repeat (first | (with_reducible first | exact HB.out | apply below_alloc | apply pw_below_drewN | apply below_drew1) | exact HB.out)) hb); have n1_ := Aside0.mk (hbox); have n2_ := Aside0.mk ((by rw [hg]; exact (below_size (by repeat (first | (with_reducible first | exact HB.out | apply below_alloc | apply pw_below_drewN | apply below_drew1) | exact HB.out))) : w.heap.size ≤ gb148)); have n3_ := Aside0.mk ((by rw [hg]; exact (below_size (by repeat (first | (with_reducible first | exact HB.out | apply below_alloc | apply pw_below_drewN | apply below_drew1) | exact HB.out))) : w.heap.size ≤ gb148)); clear HB; have HB := n0_; have BK148 := n1_; have GW148 := n2_; have GE148 := n3_; clear n0_ n1_ n2_ n3_; clear hb hbox hg; have hcz75_0 : w74.cell? ⟨gb148, 0, none⟩ = some (.int .i64 a0_0) := (blk_cell BK148.out 0).trans rfl; have hcz75_1 : w74.cell? ⟨gb148, 1, none⟩ = some (.int .i64 a0_1) := (blk_cell BK148.out 1).trans rfl; have hcz75_2 : w74.cell? ⟨gb148, 2, none⟩ = some (.int .i64 a0_2) := (blk_cell BK148.out 2).trans rfl; have hfz75_0 := blk_frozen BK148.out 0; have hfz75_1 := blk_frozen BK148.out 1; have hfz75_2 := blk_frozen BK148.out 2) | ((with_reducible refine gate_callee (f := 7) rfl ?_); refine goesL_ (some 16) rfl rfl Tryd.func7 (by kernel_rfl) rfl #[.int .i64 a0_0, .int .i64 a0_1, .int .i64 a0_2] rfl (by (try simp only [List.map_toArray, List.map_cons, List.map_nil]); first | done | rfl | (simp only [List.length_drop, List.length_take]; rfl)) ?_; (with_reducible refine (lossy_New.nil.calls a0_0 a0_1 a0_2 t177 _ A61.out).mono ?_); rintro e w76 ⟨rfl, hb⟩; refine ⟨_, rfl, ?_⟩; have n0_ := Aside0.mk (blk_below (g := gb148) (o := .cells #[.int .i64 a0_0, .int .i64 a0_1, .int .i64 a0_2] 23 (0, 0)) (by (with_reducible repeat (first | refine blk_drewN ?_ _ | refine blk_drew ?_ | refine blk_alloc ?_ _)); exact BK148.out) hb); have n1_ := Aside0.mk (below_step (by repeat (first | (with_reducible first | exact HB.out | apply below_alloc | apply pw_below_drewN | apply below_drew1 | refine below_set ?_ GE148.out) | exact HB.out)) hb); clear BK148; clear HB; have BK148 := n0_; have HB := n1_; clear n0_ n1_; (try clear hb); (try clear hb2); (try clear hk); (try clear hi); have hcz77_0 : w76.cell? ⟨gb148, 0, none⟩ = some (.int .i64 a0_0) := (blk_cell BK148.out 0).trans rfl; have hcz77_1 : w76.cell? ⟨gb148, 1, none⟩ = some (.int .i64 a0_1) := (blk_cell BK148.out 1).trans rfl; have hcz77_2 : w76.cell? ⟨gb148, 2, none⟩ = some (.int .i64 a0_2) := (blk_cell BK148.out 2).trans rfl; have hfz77_0 := blk_frozen BK148.out 0; have hfz77_1 := blk_frozen BK148.out 1; have hfz77_2 := blk_frozen BK148.out 2) | ((with_reducible refine gate_callee (f := 9) rfl ?_); refine goesL_ (some 66) rfl rfl Tryd.func9 (by kernel_rfl) rfl #[.pointer none, .int .i64 (wrap64 (a1)), .int .i64 0] rfl (by (try simp only [List.map_toArray, List.map_cons, List.map_nil]); first | done | rfl | (simp only [List.length_drop, List.length_take]; rfl)) ?_; (with_reducible refine (lossy_Lossy_Update.nilrecv.calls  (wrap64 (a1)) 0 t179 _ A65.out).mono ?_); rintro e w78 ⟨rfl, hb⟩; refine ⟨_, rfl, ?_⟩; have n0_ := Aside0.mk (blk_below (g := gb148) (o := .cells #[.int .i64 a0_0, .int .i64 a0_1, .int .i64 a0_2] 23 (0, 0)) (by (with_reducible repeat (first | refine blk_drewN ?_ _ | refine blk_drew ?_ | refine blk_alloc ?_ _)); exact BK148.out) hb); have n1_ := Aside0.mk (below_step (by repeat (first | (with_reducible first | exact HB.out | apply below_alloc | apply pw_below_drewN | apply below_drew1 | refine below_set ?_ GE148.out) | exact HB.out)) hb); clear BK148; clear HB; have BK148 := n0_; have HB := n1_; clear n0_ n1_; (try clear hb); (try clear hb2); (try clear hk); (try clear hi)))
     go_ret
     exact ⟨by first | rfl | (simp [errW_none, errW_some] <;> rfl) | (simp only [← hji64]; first | rfl | (simp [errW_none, errW_some] <;> rfl)) | (simp [*, errW_none, errW_some] <;> rfl), by repeat (first | (with_reducible first | exact HB.out | apply below_alloc | apply pw_below_drewN | apply below_drew1 | refine below_set ?_ GE148.out) | exact HB.out)⟩
   ·rw [if_neg c63] at H
    have c63b0 : decide (26 < a1) = false := decide_eq_false c63
    clear c63
    by_cases c79 : a1 < 6
    ·rw [if_pos c79] at H
     have c79b0 : decide (a1 < 6) = true := decide_eq_true c79
     clear c79
     obtain ⟨ji80, hji80⟩ : ∃ j_ : Int, (mn a0_2 (wrap64 ((wrap64 (a0_0 + (wrap64 (Int.tdiv (wrap64 ((wrap64 (a0_0 * 5)) + 99)) 100)))) + 1000))) = j_ := ⟨_, rfl⟩
     replace H : ((lossy_Lossy_Update.nilrecv.f (wrap64 (a1)) 0).bind fun t181 => (if t181 = (ji80) then ((flywheellaw20_wakes.f).bind fun t182 => (some t182)) else (some false))) = some r := by first | (rw [hji80] at H; exact H) | (simp only [hji80] at H ⊢; exact H)
     (try rw [hji80] at A61)
     have hji80_ : (if (wrap64 ((wrap64 (a0_0 + (wrap64 (Int.tdiv (wrap64 ((wrap64 (a0_0 * 5)) + 99)) 100)))) + 1000)) < a0_2 then (wrap64 ((wrap64 (a0_0 + (wrap64 (Int.tdiv (wrap64 ((wrap64 (a0_0 * 5)) + 99)) 100)))) + 1000)) else a0_2) = ji80 := hji80
     replace H := Option.bind_eq_some_iff.mp H
     obtain ⟨t181, A810, H⟩ := H
     replace H : (if t181 = (ji80) then ((flywheellaw20_wakes.f).bind fun t182 => (some t182)) else (some false)) = some r := H
     have A81 := Aside0.mk A810
     clear A810
     by_cases c82 : t181 = (ji80)
     ·rw [if_pos c82] at H
      have c82b0 : (t181 == (ji80)) = true := beq_iff_eq.mpr c82
      have c82b1 : (t181 != (ji80)) = false := bne_eq_false_iff_eq.mpr c82
      clear c82
      replace H := Option.bind_eq_some_iff.mp H
      obtain ⟨t182, A830, H⟩ := H
      replace H : (some t182) = some r := H
      have A83 := Aside0.mk A830
      clear A830
      obtain rfl := Option.some.inj H
      go_enter Tryd.func3, Tryd.ntmps3
      go_wp2_with (first | ((with_reducible refine gate_dst (N := 2) rfl ?_); refine box_event ?hg (N := 2) ?hd (cs := #[.int .i64 a0_0, .int .i64 a0_1, .int .i64 a0_2]) (t := 23) ?hr ?_; (case hd => rfl); (case hg => rfl); (case hr => first | (go_simp; done) | (go_simp; rfl)); intro gb148 hg w84 hbox hb; have n0_ := Aside0.mk (below_step (by repeat (first | (with_reducible first | exact HB.out | apply below_alloc | apply pw_below_drewN | apply below_drew1) | exact HB.out)) hb); have n1_ := Aside0.mk (hbox); have n2_ := Aside0.mk ((by rw [hg]; exact (below_size (by repeat (first | (with_reducible first | exact HB.out | apply below_alloc | apply pw_below_drewN | apply below_drew1) | exact HB.out))) : w.heap.size ≤ gb148)); have n3_ := Aside0.mk ((by rw [hg]; exact (below_size (by repeat (first | (with_reducible first | exact HB.out | apply below_alloc | apply pw_below_drewN | apply below_drew1) | exact HB.out))) : w.heap.size ≤ gb148)); clear HB; have HB := n0_; have BK148 := n1_; have GW148 := n2_; have GE148 := n3_; clear n0_ n1_ n2_ n3_; clear hb hbox hg; have hcz85_0 : w84.cell? ⟨gb148, 0, none⟩ = some (.int .i64 a0_0) := (blk_cell BK148.out 0).trans rfl; have hcz85_1 : w84.cell? ⟨gb148, 1, none⟩ = some (.int .i64 a0_1) := (blk_cell BK148.out 1).trans rfl; have hcz85_2 : w84.cell? ⟨gb148, 2, none⟩ = some (.int .i64 a0_2) := (blk_cell BK148.out 2).trans rfl; have hfz85_0 := blk_frozen BK148.out 0; have hfz85_1 := blk_frozen BK148.out 1; have hfz85_2 := blk_frozen BK148.out 2) | ((with_reducible refine gate_callee (f := 7) rfl ?_); refine goesL_ (some 16) rfl rfl Tryd.func7 (by kernel_rfl) rfl #[.int .i64 a0_0, .int .i64 a0_1, .int .i64 a0_2] rfl (by (try simp only [List.map_toArray, List.map_cons, List.map_nil]); first | done | rfl | (simp only [List.length_drop, List.length_take]; rfl)) ?_; (with_reducible refine (lossy_New.nil.calls a0_0 a0_1 a0_2 t177 _ A61.out).mono ?_); rintro e w86 ⟨rfl, hb⟩; refine ⟨_, rfl, ?_⟩; have n0_ := Aside0.mk (blk_below (g := gb148) (o := .cells #[.int .i64 a0_0, .int .i64 a0_1, .int .i64 a0_2] 23 (0, 0)) (by (with_reducible repeat (first | refine blk_drewN ?_ _ | refine blk_drew ?_ | refine blk_alloc ?_ _)); exact BK148.out) hb); have n1_ := Aside0.mk (below_step (by repeat (first | (with_reducible first | exact HB.out | apply below_alloc | apply pw_below_drewN | apply below_drew1 | refine below_set ?_ GE148.out) | exact HB.out)) hb); clear BK148; clear HB; have BK148 := n0_; have HB := n1_; clear n0_ n1_; (try clear hb); (try clear hb2); (try clear hk); (try clear hi); have hcz87_0 : w86.cell? ⟨gb148, 0, none⟩ = some (.int .i64 a0_0) := (blk_cell BK148.out 0).trans rfl; have hcz87_1 : w86.cell? ⟨gb148, 1, none⟩ = some (.int .i64 a0_1) := (blk_cell BK148.out 1).trans rfl; have hcz87_2 : w86.cell? ⟨gb148, 2, none⟩ = some (.int .i64 a0_2) := (blk_cell BK148.out 2).trans rfl; have hfz87_0 := blk_frozen BK148.out 0; have hfz87_1 := blk_frozen BK148.out 1; have hfz87_2 := blk_frozen BK148.out 2) | ((with_reducible refine gate_callee (f := 9) rfl ?_); refine goesL_ (some 66) rfl rfl Tryd.func9 (by kernel_rfl) rfl #[.pointer none, .int .i64 (wrap64 (a1)), .int .i64 0] rfl (by (try simp only [List.map_toArray, List.map_cons, List.map_nil]); first | done | rfl | (simp only [List.length_drop, List.length_take]; rfl)) ?_; (with_reducible refine (lossy_Lossy_Update.nilrecv.calls  (wrap64 (a1)) 0 t181 _ A81.out).mono ?_); rintro e w88 ⟨rfl, hb⟩; refine ⟨_, rfl, ?_⟩; have n0_ := Aside0.mk (blk_below (g := gb148) (o := .cells #[.int .i64 a0_0, .int .i64 a0_1, .int .i64 a0_2] 23 (0, 0)) (by (with_reducible repeat (first | refine blk_drewN ?_ _ | refine blk_drew ?_ | refine blk_alloc ?_ _)); exact BK148.out) hb); have n1_ := Aside0.mk (below_step (by repeat (first | (with_reducible first | exact HB.out | apply below_alloc | apply pw_below_drewN | apply below_drew1 | refine below_set ?_ GE148.out) | exact HB.out)) hb); clear BK148; clear HB; have BK148 := n0_; have HB := n1_; clear n0_ n1_; (try clear hb); (try clear hb2); (try clear hk); (try clear hi)) | (go_at_call 8; (with_reducible refine (flywheellaw20_wakes.calls  t182 _ ?sideG A83.out).mono ?_); (case sideG => first | exact HTB.out | exact GL.below HTB.out (by repeat (first | (with_reducible first | exact HB.out | apply below_alloc | apply pw_below_drewN | apply below_drew1 | refine below_set ?_ GE148.out) | exact HB.out))); rintro e w89 ⟨rfl, hb⟩; have n0_ := Aside0.mk (blk_below (g := gb148) (o := .cells #[.int .i64 a0_0, .int .i64 a0_1, .int .i64 a0_2] 23 (0, 0)) (by (with_reducible repeat (first | refine blk_drewN ?_ _ | refine blk_drew ?_ | refine blk_alloc ?_ _)); exact BK148.out) hb); have n1_ := Aside0.mk (below_step (by repeat (first | (with_reducible first | exact HB.out | apply below_alloc | apply pw_below_drewN | apply below_drew1 | refine below_set ?_ GE148.out) | exact HB.out)) hb); clear BK148; clear HB; have BK148 := n0_; have HB := n1_; clear n0_ n1_; (try clear hb); (try clear hb2); (try clear hk); (try clear hi)))
      go_ret
      exact ⟨by first | rfl | (simp [errW_none, errW_some] <;> rfl) | (simp only [← hji80]; first | rfl | (simp [errW_none, errW_some] <;> rfl)) | (simp [*, errW_none, errW_some] <;> rfl), by repeat (first | (with_reducible first | exact HB.out | apply below_alloc | apply pw_below_drewN | apply below_drew1 | refine below_set ?_ GE148.out) | exact HB.out)⟩
     ·rw [if_neg c82] at H
      have c82b0 : (t181 == (ji80)) = false := beq_eq_false_iff_ne.mpr c82
      have c82b1 : (t181 != (ji80)) = true := bne_iff_ne.mpr c82
      obtain rfl := Option.some.inj H
      go_enter Tryd.func3, Tryd.ntmps3
      go_wp2_with (first | ((with_reducible refine gate_dst (N := 2) rfl ?_); refine box_event ?hg (N := 2) ?hd (cs := #[.int .i64 a0_0, .int .i64 a0_1, .int .i64 a0_2]) (t := 23) ?hr ?_; (case hd => rfl); (case hg => rfl); (case hr => first | (go_simp; done) | (go_simp; rfl)); intro gb148 hg w90 hbox hb; have n0_ := Aside0.mk (below_step (by repeat (first | (with_reducible first | exact HB.out | apply below_alloc | apply pw_below_drewN | apply below_drew1) | exact HB.out)) hb); have n1_ := Aside0.mk (hbox); have n2_ := Aside0.mk ((by rw [hg]; exact (below_size (by repeat (first | (with_reducible first | exact HB.out | apply below_alloc | apply pw_below_drewN | apply below_drew1) | exact HB.out))) : w.heap.size ≤ gb148)); have n3_ := Aside0.mk ((by rw [hg]; exact (below_size (by repeat (first | (with_reducible first | exact HB.out | apply below_alloc | apply pw_below_drewN | apply below_drew1) | exact HB.out))) : w.heap.size ≤ gb148)); clear HB; have HB := n0_; have BK148 := n1_; have GW148 := n2_; have GE148 := n3_; clear n0_ n1_ n2_ n3_; clear hb hbox hg; have hcz91_0 : w90.cell? ⟨gb148, 0, none⟩ = some (.int .i64 a0_0) := (blk_cell BK148.out 0).trans rfl; have hcz91_1 : w90.cell? ⟨gb148, 1, none⟩ = some (.int .i64 a0_1) := (blk_cell BK148.out 1).trans rfl; have hcz91_2 : w90.cell? ⟨gb148, 2, none⟩ = some (.int .i64 a0_2) := (blk_cell BK148.out 2).trans rfl; have hfz91_0 := blk_frozen BK148.out 0; have hfz91_1 := blk_frozen BK148.out 1; have hfz91_2 := blk_frozen BK148.out 2) | ((with_reducible refine gate_callee (f := 7) rfl ?_); refine goesL_ (some 16) rfl rfl Tryd.func7 (by kernel_rfl) rfl #[.int .i64 a0_0, .int .i64 a0_1, .int .i64 a0_2] rfl (by (try simp only [List.map_toArray, List.map_cons, List.map_nil]); first | done | rfl | (simp only [List.length_drop, List.length_take]; rfl)) ?_; (with_reducible refine (lossy_New.nil.calls a0_0 a0_1 a0_2 t177 _ A61.out).mono ?_); rintro e w92 ⟨rfl, hb⟩; refine ⟨_, rfl, ?_⟩; have n0_ := Aside0.mk (blk_below (g := gb148) (o := .cells #[.int .i64 a0_0, .int .i64 a0_1, .int .i64 a0_2] 23 (0, 0)) (by (with_reducible repeat (first | refine blk_drewN ?_ _ | refine blk_drew ?_ | refine blk_alloc ?_ _)); exact BK148.out) hb); have n1_ := Aside0.mk (below_step (by repeat (first | (with_reducible first | exact HB.out | apply below_alloc | apply pw_below_drewN | apply below_drew1 | refine below_set ?_ GE148.out) | exact HB.out)) hb); clear BK148; clear HB; have BK148 := n0_; have HB := n1_; clear n0_ n1_; (try clear hb); (try clear hb2); (try clear hk); (try clear hi); have hcz93_0 : w92.cell? ⟨gb148, 0, none⟩ = some (.int .i64 a0_0) := (blk_cell BK148.out 0).trans rfl; have hcz93_1 : w92.cell? ⟨gb148, 1, none⟩ = some (.int .i64 a0_1) := (blk_cell BK148.out 1).trans rfl; have hcz93_2 : w92.cell? ⟨gb148, 2, none⟩ = some (.int .i64 a0_2) := (blk_cell BK148.out 2).trans rfl; have hfz93_0 := blk_frozen BK148.out 0; have hfz93_1 := blk_frozen BK148.out 1; have hfz93_2 := blk_frozen BK148.out 2) | ((with_reducible refine gate_callee (f := 9) rfl ?_); refine goesL_ (some 66) rfl rfl Tryd.func9 (by kernel_rfl) rfl #[.pointer none, .int .i64 (wrap64 (a1)), .int .i64 0] rfl (by (try simp only [List.map_toArray, List.map_cons, List.map_nil]); first | done | rfl | (simp only [List.length_drop, List.length_take]; rfl)) ?_; (with_reducible refine (lossy_Lossy_Update.nilrecv.calls  (wrap64 (a1)) 0 t181 _ A81.out).mono ?_); rintro e w94 ⟨rfl, hb⟩; refine ⟨_, rfl, ?_⟩; have n0_ := Aside0.mk (blk_below (g := gb148) (o := .cells #[.int .i64 a0_0, .int .i64 a0_1, .int .i64 a0_2] 23 (0, 0)) (by (with_reducible repeat (first | refine blk_drewN ?_ _ | refine blk_drew ?_ | refine blk_alloc ?_ _)); exact BK148.out) hb); have n1_ := Aside0.mk (below_step (by repeat (first | (with_reducible first | exact HB.out | apply below_alloc | apply pw_below_drewN | apply below_drew1 | refine below_set ?_ GE148.out) | exact HB.out)) hb); clear BK148; clear HB; have BK148 := n0_; have HB := n1_; clear n0_ n1_; (try clear hb); (try clear hb2); (try clear hk); (try clear hi)))
      go_ret
      exact ⟨by first | rfl | (simp [errW_none, errW_some] <;> rfl) | (simp only [← hji80]; first | rfl | (simp [errW_none, errW_some] <;> rfl)) | (simp [*, errW_none, errW_some] <;> rfl), by repeat (first | (with_reducible first | exact HB.out | apply below_alloc | apply pw_below_drewN | apply below_drew1 | refine below_set ?_ GE148.out) | exact HB.out)⟩
    ·rw [if_neg c79] at H
     have c79b0 : decide (a1 < 6) = false := decide_eq_false c79
     clear c79
     replace H := Option.bind_eq_some_iff.mp H
     obtain ⟨t183, A950, H⟩ := H
     replace H : (if t183 = a0_0 then ((flywheellaw20_wakes.f).bind fun t184 => (some t184)) else (some false)) = some r := H
     have A95 := Aside0.mk A950
     clear A950
     by_cases c96 : t183 = a0_0
     ·rw [if_pos c96] at H
      have c96b0 : (t183 == a0_0) = true := beq_iff_eq.mpr c96
      have c96b1 : (t183 != a0_0) = false := bne_eq_false_iff_eq.mpr c96
      clear c96
      replace H := Option.bind_eq_some_iff.mp H
      obtain ⟨t184, A970, H⟩ := H
      replace H : (some t184) = some r := H
      have A97 := Aside0.mk A970
      clear A970
      obtain rfl := Option.some.inj H
      go_enter Tryd.func3, Tryd.ntmps3
      go_wp2_with (first | ((with_reducible refine gate_dst (N := 2) rfl ?_); refine box_event ?hg (N := 2) ?hd (cs := #[.int .i64 a0_0, .int .i64 a0_1, .int .i64 a0_2]) (t := 23) ?hr ?_; (case hd => rfl); (case hg => rfl); (case hr => first | (go_simp; done) | (go_simp; rfl)); intro gb148 hg w98 hbox hb; have n0_ := Aside0.mk (below_step (by repeat (first | (with_reducible first | exact HB.out | apply below_alloc | apply pw_below_drewN | apply below_drew1) | exact HB.out)) hb); have n1_ := Aside0.mk (hbox); have n2_ := Aside0.mk ((by rw [hg]; exact (below_size (by repeat (first | (with_reducible first | exact HB.out | apply below_alloc | apply pw_below_drewN | apply below_drew1) | exact HB.out))) : w.heap.size ≤ gb148)); have n3_ := Aside0.mk ((by rw [hg]; exact (below_size (by repeat (first | (with_reducible first | exact HB.out | apply below_alloc | apply pw_below_drewN | apply below_drew1) | exact HB.out))) : w.heap.size ≤ gb148)); clear HB; have HB := n0_; have BK148 := n1_; have GW148 := n2_; have GE148 := n3_; clear n0_ n1_ n2_ n3_; clear hb hbox hg; have hcz99_0 : w98.cell? ⟨gb148, 0, none⟩ = some (.int .i64 a0_0) := (blk_cell BK148.out 0).trans rfl; have hcz99_1 : w98.cell? ⟨gb148, 1, none⟩ = some (.int .i64 a0_1) := (blk_cell BK148.out 1).trans rfl; have hcz99_2 : w98.cell? ⟨gb148, 2, none⟩ = some (.int .i64 a0_2) := (blk_cell BK148.out 2).trans rfl; have hfz99_0 := blk_frozen BK148.out 0; have hfz99_1 := blk_frozen BK148.out 1; have hfz99_2 := blk_frozen BK148.out 2) | ((with_reducible refine gate_callee (f := 7) rfl ?_); refine goesL_ (some 16) rfl rfl Tryd.func7 (by kernel_rfl) rfl #[.int .i64 a0_0, .int .i64 a0_1, .int .i64 a0_2] rfl (by (try simp only [List.map_toArray, List.map_cons, List.map_nil]); first | done | rfl | (simp only [List.length_drop, List.length_take]; rfl)) ?_; (with_reducible refine (lossy_New.nil.calls a0_0 a0_1 a0_2 t177 _ A61.out).mono ?_); rintro e w100 ⟨rfl, hb⟩; refine ⟨_, rfl, ?_⟩; have n0_ := Aside0.mk (blk_below (g := gb148) (o := .cells #[.int .i64 a0_0, .int .i64 a0_1, .int .i64 a0_2] 23 (0, 0)) (by (with_reducible repeat (first | refine blk_drewN ?_ _ | refine blk_drew ?_ | refine blk_alloc ?_ _)); exact BK148.out) hb); have n1_ := Aside0.mk (below_step (by repeat (first | (with_reducible first | exact HB.out | apply below_alloc | apply pw_below_drewN | apply below_drew1 | refine below_set ?_ GE148.out) | exact HB.out)) hb); clear BK148; clear HB; have BK148 := n0_; have HB := n1_; clear n0_ n1_; (try clear hb); (try clear hb2); (try clear hk); (try clear hi); have hcz101_0 : w100.cell? ⟨gb148, 0, none⟩ = some (.int .i64 a0_0) := (blk_cell BK148.out 0).trans rfl; have hcz101_1 : w100.cell? ⟨gb148, 1, none⟩ = some (.int .i64 a0_1) := (blk_cell BK148.out 1).trans rfl; have hcz101_2 : w100.cell? ⟨gb148, 2, none⟩ = some (.int .i64 a0_2) := (blk_cell BK148.out 2).trans rfl; have hfz101_0 := blk_frozen BK148.out 0; have hfz101_1 := blk_frozen BK148.out 1; have hfz101_2 := blk_frozen BK148.out 2) | ((with_reducible refine gate_callee (f := 9) rfl ?_); refine goesL_ (some 66) rfl rfl Tryd.func9 (by kernel_rfl) rfl #[.pointer none, .int .i64 (wrap64 (a1)), .int .i64 0] rfl (by (try simp only [List.map_toArray, List.map_cons, List.map_nil]); first | done | rfl | (simp only [List.length_drop, List.length_take]; rfl)) ?_; (with_reducible refine (lossy_Lossy_Update.nilrecv.calls  (wrap64 (a1)) 0 t183 _ A95.out).mono ?_); rintro e w102 ⟨rfl, hb⟩; refine ⟨_, rfl, ?_⟩; have n0_ := Aside0.mk (blk_below (g := gb148) (o := .cells #[.int .i64 a0_0, .int .i64 a0_1, .int .i64 a0_2] 23 (0, 0)) (by (with_reducible repeat (first | refine blk_drewN ?_ _ | refine blk_drew ?_ | refine blk_alloc ?_ _)); exact BK148.out) hb); have n1_ := Aside0.mk (below_step (by repeat (first | (with_reducible first | exact HB.out | apply below_alloc | apply pw_below_drewN | apply below_drew1 | refine below_set ?_ GE148.out) | exact HB.out)) hb); clear BK148; clear HB; have BK148 := n0_; have HB := n1_; clear n0_ n1_; (try clear hb); (try clear hb2); (try clear hk); (try clear hi)) | (go_at_call 8; (with_reducible refine (flywheellaw20_wakes.calls  t184 _ ?sideG A97.out).mono ?_); (case sideG => first | exact HTB.out | exact GL.below HTB.out (by repeat (first | (with_reducible first | exact HB.out | apply below_alloc | apply pw_below_drewN | apply below_drew1 | refine below_set ?_ GE148.out) | exact HB.out))); rintro e w103 ⟨rfl, hb⟩; have n0_ := Aside0.mk (blk_below (g := gb148) (o := .cells #[.int .i64 a0_0, .int .i64 a0_1, .int .i64 a0_2] 23 (0, 0)) (by (with_reducible repeat (first | refine blk_drewN ?_ _ | refine blk_drew ?_ | refine blk_alloc ?_ _)); exact BK148.out) hb); have n1_ := Aside0.mk (below_step (by repeat (first | (with_reducible first | exact HB.out | apply below_alloc | apply pw_below_drewN | apply below_drew1 | refine below_set ?_ GE148.out) | exact HB.out)) hb); clear BK148; clear HB; have BK148 := n0_; have HB := n1_; clear n0_ n1_; (try clear hb); (try clear hb2); (try clear hk); (try clear hi)))
      go_ret
      exact ⟨by first | rfl | (simp [errW_none, errW_some] <;> rfl) | (simp [*, errW_none, errW_some] <;> rfl), by repeat (first | (with_reducible first | exact HB.out | apply below_alloc | apply pw_below_drewN | apply below_drew1 | refine below_set ?_ GE148.out) | exact HB.out)⟩
     ·rw [if_neg c96] at H
      have c96b0 : (t183 == a0_0) = false := beq_eq_false_iff_ne.mpr c96
      have c96b1 : (t183 != a0_0) = true := bne_iff_ne.mpr c96
      obtain rfl := Option.some.inj H
      go_enter Tryd.func3, Tryd.ntmps3
      go_wp2_with (first | ((with_reducible refine gate_dst (N := 2) rfl ?_); refine box_event ?hg (N := 2) ?hd (cs := #[.int .i64 a0_0, .int .i64 a0_1, .int .i64 a0_2]) (t := 23) ?hr ?_; (case hd => rfl); (case hg => rfl); (case hr => first | (go_simp; done) | (go_simp; rfl)); intro gb148 hg w104 hbox hb; have n0_ := Aside0.mk (below_step (by repeat (first | (with_reducible first | exact HB.out | apply below_alloc | apply pw_below_drewN | apply below_drew1) | exact HB.out)) hb); have n1_ := Aside0.mk (hbox); have n2_ := Aside0.mk ((by rw [hg]; exact (below_size (by repeat (first | (with_reducible first | exact HB.out | apply below_alloc | apply pw_below_drewN | apply below_drew1) | exact HB.out))) : w.heap.size ≤ gb148)); have n3_ := Aside0.mk ((by rw [hg]; exact (below_size (by repeat (first | (with_reducible first | exact HB.out | apply below_alloc | apply pw_below_drewN | apply below_drew1) | exact HB.out))) : w.heap.size ≤ gb148)); clear HB; have HB := n0_; have BK148 := n1_; have GW148 := n2_; have GE148 := n3_; clear n0_ n1_ n2_ n3_; clear hb hbox hg; have hcz105_0 : w104.cell? ⟨gb148, 0, none⟩ = some (.int .i64 a0_0) := (blk_cell BK148.out 0).trans rfl; have hcz105_1 : w104.cell? ⟨gb148, 1, none⟩ = some (.int .i64 a0_1) := (blk_cell BK148.out 1).trans rfl; have hcz105_2 : w104.cell? ⟨gb148, 2, none⟩ = some (.int .i64 a0_2) := (blk_cell BK148.out 2).trans rfl; have hfz105_0 := blk_frozen BK148.out 0; have hfz105_1 := blk_frozen BK148.out 1; have hfz105_2 := blk_frozen BK148.out 2) | ((with_reducible refine gate_callee (f := 7) rfl ?_); refine goesL_ (some 16) rfl rfl Tryd.func7 (by kernel_rfl) rfl #[.int .i64 a0_0, .int .i64 a0_1, .int .i64 a0_2] rfl (by (try simp only [List.map_toArray, List.map_cons, List.map_nil]); first | done | rfl | (simp only [List.length_drop, List.length_take]; rfl)) ?_; (with_reducible refine (lossy_New.nil.calls a0_0 a0_1 a0_2 t177 _ A61.out).mono ?_); rintro e w106 ⟨rfl, hb⟩; refine ⟨_, rfl, ?_⟩; have n0_ := Aside0.mk (blk_below (g := gb148) (o := .cells #[.int .i64 a0_0, .int .i64 a0_1, .int .i64 a0_2] 23 (0, 0)) (by (with_reducible repeat (first | refine blk_drewN ?_ _ | refine blk_drew ?_ | refine blk_alloc ?_ _)); exact BK148.out) hb); have n1_ := Aside0.mk (below_step (by repeat (first | (with_reducible first | exact HB.out | apply below_alloc | apply pw_below_drewN | apply below_drew1 | refine below_set ?_ GE148.out) | exact HB.out)) hb); clear BK148; clear HB; have BK148 := n0_; have HB := n1_; clear n0_ n1_; (try clear hb); (try clear hb2); (try clear hk); (try clear hi); have hcz107_0 : w106.cell? ⟨gb148, 0, none⟩ = some (.int .i64 a0_0) := (blk_cell BK148.out 0).trans rfl; have hcz107_1 : w106.cell? ⟨gb148, 1, none⟩ = some (.int .i64 a0_1) := (blk_cell BK148.out 1).trans rfl; have hcz107_2 : w106.cell? ⟨gb148, 2, none⟩ = some (.int .i64 a0_2) := (blk_cell BK148.out 2).trans rfl; have hfz107_0 := blk_frozen BK148.out 0; have hfz107_1 := blk_frozen BK148.out 1; have hfz107_2 := blk_frozen BK148.out 2) | ((with_reducible refine gate_callee (f := 9) rfl ?_); refine goesL_ (some 66) rfl rfl Tryd.func9 (by kernel_rfl) rfl #[.pointer none, .int .i64 (wrap64 (a1)), .int .i64 0] rfl (by (try simp only [List.map_toArray, List.map_cons, List.map_nil]); first | done | rfl | (simp only [List.length_drop, List.length_take]; rfl)) ?_; (with_reducible refine (lossy_Lossy_Update.nilrecv.calls  (wrap64 (a1)) 0 t183 _ A95.out).mono ?_); rintro e w108 ⟨rfl, hb⟩; refine ⟨_, rfl, ?_⟩; have n0_ := Aside0.mk (blk_below (g := gb148) (o := .cells #[.int .i64 a0_0, .int .i64 a0_1, .int .i64 a0_2] 23 (0, 0)) (by (with_reducible repeat (first | refine blk_drewN ?_ _ | refine blk_drew ?_ | refine blk_alloc ?_ _)); exact BK148.out) hb); have n1_ := Aside0.mk (below_step (by repeat (first | (with_reducible first | exact HB.out | apply below_alloc | apply pw_below_drewN | apply below_drew1 | refine below_set ?_ GE148.out) | exact HB.out)) hb); clear BK148; clear HB; have BK148 := n0_; have HB := n1_; clear n0_ n1_; (try clear hb); (try clear hb2); (try clear hk); (try clear hi)))
      go_ret
      exact ⟨by first | rfl | (simp [errW_none, errW_some] <;> rfl) | (simp [*, errW_none, errW_some] <;> rfl), by repeat (first | (with_reducible first | exact HB.out | apply below_alloc | apply pw_below_drewN | apply below_drew1 | refine below_set ?_ GE148.out) | exact HB.out)⟩
  ·rw [if_neg c62] at H
   have c62b0 : (t177 == 0) = false := beq_eq_false_iff_ne.mpr c62
   have c62b1 : (t177 != 0) = true := bne_iff_ne.mpr c62
   replace H := Option.bind_eq_some_iff.mp H
   obtain ⟨t178, A1090, H⟩ := H
   replace H : (some t178) = some r := H
   have A109 := Aside0.mk A1090
   clear A1090
   obtain rfl := Option.some.inj H
   go_enter Tryd.func3, Tryd.ntmps3
   go_wp2_with (first | ((with_reducible refine gate_dst (N := 2) rfl ?_); refine box_event ?hg (N := 2) ?hd (cs := #[.int .i64 a0_0, .int .i64 a0_1, .int .i64 a0_2]) (t := 23) ?hr ?_; (case hd => rfl); (case hg => rfl); (case hr => first | (go_simp; done) | (go_simp; rfl)); intro gb148 hg w110 hbox hb; have n0_ := Aside0.mk (below_step (by repeat (first | (with_reducible first | exact HB.out | apply below_alloc | apply pw_below_drewN | apply below_drew1) | exact HB.out)) hb); have n1_ := Aside0.mk (hbox); have n2_ := Aside0.mk ((by rw [hg]; exact (below_size (by repeat (first | (with_reducible first | exact HB.out | apply below_alloc | apply pw_below_drewN | apply below_drew1) | exact HB.out))) : w.heap.size ≤ gb148)); have n3_ := Aside0.mk ((by rw [hg]; exact (below_size (by repeat (first | (with_reducible first | exact HB.out | apply below_alloc | apply pw_below_drewN | apply below_drew1) | exact HB.out))) : w.heap.size ≤ gb148)); clear HB; have HB := n0_; have BK148 := n1_; have GW148 := n2_; have GE148 := n3_; clear n0_ n1_ n2_ n3_; clear hb hbox hg; have hcz111_0 : w110.cell? ⟨gb148, 0, none⟩ = some (.int .i64 a0_0) := (blk_cell BK148.out 0).trans rfl; have hcz111_1 : w110.cell? ⟨gb148, 1, none⟩ = some (.int .i64 a0_1) := (blk_cell BK148.out 1).trans rfl; have hcz111_2 : w110.cell? ⟨gb148, 2, none⟩ = some (.int .i64 a0_2) := (blk_cell BK148.out 2).trans rfl; have hfz111_0 := blk_frozen BK148.out 0; have hfz111_1 := blk_frozen BK148.out 1; have hfz111_2 := blk_frozen BK148.out 2) | ((with_reducible refine gate_callee (f := 7) rfl ?_); refine goesL_ (some 16) rfl rfl Tryd.func7 (by kernel_rfl) rfl #[.int .i64 a0_0, .int .i64 a0_1, .int .i64 a0_2] rfl (by (try simp only [List.map_toArray, List.map_cons, List.map_nil]); first | done | rfl | (simp only [List.length_drop, List.length_take]; rfl)) ?_; (with_reducible refine (lossy_New.nil.calls a0_0 a0_1 a0_2 t177 _ A61.out).mono ?_); rintro e w112 ⟨rfl, hb⟩; refine ⟨_, rfl, ?_⟩; have n0_ := Aside0.mk (blk_below (g := gb148) (o := .cells #[.int .i64 a0_0, .int .i64 a0_1, .int .i64 a0_2] 23 (0, 0)) (by (with_reducible repeat (first | refine blk_drewN ?_ _ | refine blk_drew ?_ | refine blk_alloc ?_ _)); exact BK148.out) hb); have n1_ := Aside0.mk (below_step (by repeat (first | (with_reducible first | exact HB.out | apply below_alloc | apply pw_below_drewN | apply below_drew1 | refine below_set ?_ GE148.out) | exact HB.out)) hb); clear BK148; clear HB; have BK148 := n0_; have HB := n1_; clear n0_ n1_; (try clear hb); (try clear hb2); (try clear hk); (try clear hi)) | (go_at_call 8; (with_reducible refine (flywheellaw20_wakes.calls  t178 _ ?sideG A109.out).mono ?_); (case sideG => first | exact HTB.out | exact GL.below HTB.out (by repeat (first | (with_reducible first | exact HB.out | apply below_alloc | apply pw_below_drewN | apply below_drew1 | refine below_set ?_ GE148.out) | exact HB.out))); rintro e w113 ⟨rfl, hb⟩; have n0_ := Aside0.mk (blk_below (g := gb148) (o := .cells #[.int .i64 a0_0, .int .i64 a0_1, .int .i64 a0_2] 23 (0, 0)) (by (with_reducible repeat (first | refine blk_drewN ?_ _ | refine blk_drew ?_ | refine blk_alloc ?_ _)); exact BK148.out) hb); have n1_ := Aside0.mk (below_step (by repeat (first | (with_reducible first | exact HB.out | apply below_alloc | apply pw_below_drewN | apply below_drew1 | refine below_set ?_ GE148.out) | exact HB.out)) hb); clear BK148; clear HB; have BK148 := n0_; have HB := n1_; clear n0_ n1_; (try clear hb); (try clear hb2); (try clear hk); (try clear hi)))
   go_ret
   exact ⟨by first | rfl | (simp [errW_none, errW_some] <;> rfl) | (simp [*, errW_none, errW_some] <;> rfl), by repeat (first | (with_reducible first | exact HB.out | apply below_alloc | apply pw_below_drewN | apply below_drew1 | refine below_set ?_ GE148.out) | exact HB.out)⟩
def flywheellaw20_LossyCuts.Pure : Prop := ∀ (a0_0 : Int) (a0_1 : Int) (a0_2 : Int) (a1 : Int), (Lit.int .i64 a0_0).wf = true → (Lit.int .i64 a0_1).wf = true → (Lit.int .i64 a0_2).wf = true → (Lit.int .u8 a1).wf = true → flywheellaw20_LossyCuts.f a0_0 a0_1 a0_2 a1 = some true
theorem flywheellaw20_LossyCuts.walk (P : flywheellaw20_LossyCuts.Pure) (a0_0 : Int) (a0_1 : Int) (a0_2 : Int) (a1 : Int) (w : World) (w0_0 : (Lit.int .i64 a0_0).wf = true) (w0_1 : (Lit.int .i64 a0_1).wf = true) (w0_2 : (Lit.int .i64 a0_2).wf = true) (w1 : (Lit.int .u8 a1).wf = true) (hG : GL w) :
  Calls Tryd.prog 3 #[.agg #[.int .i64 a0_0, .int .i64 a0_1, .int .i64 a0_2], .int .u8 a1] w fun e w' => e = .returned (.bool true) ∧ Below w.heap.size w w' := by
 have h := P a0_0 a0_1 a0_2 a1 w0_0 w0_1 w0_2 w1
 refine (flywheellaw20_LossyCuts.calls a0_0 a0_1 a0_2 a1 true w hG h).mono ?_
 rintro e w' ⟨rfl, hd⟩
 exact ⟨rfl, hd⟩
def flywheelref19_Rates.f (a0 : Int) (a1 : Int) (a2 : Int) : Option (Bool) := if a1 ≥ 1 then (if a1 ≤ a0 then (if a0 ≤ a2 then (some (decide (a2 ≤ 17179869184))) else (some false)) else (some false)) else (some false)
def flywheelref20_New.made.f (a0 : Int) (a1 : Int) (a2 : Int) : Option (Int × Int × Int × Bool × Int × Int) := (flywheelref19_Rates.f a0 a1 a2).bind fun t185 => (if t185 = true then (some (a0, a1, a2, false, 0, 0)) else (none))
def flywheelref20_New.nil.f (a0 : Int) (a1 : Int) (a2 : Int) : Option (Int) := (flywheelref19_Rates.f a0 a1 a2).bind fun t187 => (if t187 = true then (none) else (some 1))
end Go.Proofs.YtkfkbebpcmmnfaaDoor.P
end

section
namespace Go.Proofs.YtkfkbebpcmmnfaaDoor.P
open Go.RowKit Go.Proofs.YtkfkbebpcmmnfaaDoorW.PrintWords Go.Proofs.YtkfkbebpcmmnfaaDoorW.PrintLast Go.Proofs.YtkfkbebpcmmnfaaDoorW.PrintMore
attribute [local go_sem] max2_int min2_int max_two min_two max_three min_three max_four min_four   -- for this text's walks alone
set_option linter.unusedVariables false
set_option linter.unusedSimpArgs false
end Go.Proofs.YtkfkbebpcmmnfaaDoor.P
end

section
namespace Go.Proofs.YtkfkbebpcmmnfaaDoor.P
open Go.RowKit Go.Proofs.YtkfkbebpcmmnfaaDoorW.PrintWords Go.Proofs.YtkfkbebpcmmnfaaDoorW.PrintLast Go.Proofs.YtkfkbebpcmmnfaaDoorW.PrintMore
attribute [local go_sem] max2_int min2_int max_two min_two max_three min_three max_four min_four   -- for this text's walks alone
set_option linter.unusedVariables false
set_option linter.unusedSimpArgs false
end Go.Proofs.YtkfkbebpcmmnfaaDoor.P
end

section
namespace Go.Proofs.YtkfkbebpcmmnfaaDoor.P
open Go.RowKit Go.Proofs.YtkfkbebpcmmnfaaDoorW.PrintWords Go.Proofs.YtkfkbebpcmmnfaaDoorW.PrintLast Go.Proofs.YtkfkbebpcmmnfaaDoorW.PrintMore
attribute [local go_sem] max2_int min2_int max_two min_two max_three min_three max_four min_four   -- for this text's walks alone
set_option linter.unusedVariables false
set_option linter.unusedSimpArgs false
end Go.Proofs.YtkfkbebpcmmnfaaDoor.P
end

section
namespace Go.Proofs.YtkfkbebpcmmnfaaDoor.P
open Go.RowKit Go.Proofs.YtkfkbebpcmmnfaaDoorW.PrintWords Go.Proofs.YtkfkbebpcmmnfaaDoorW.PrintLast Go.Proofs.YtkfkbebpcmmnfaaDoorW.PrintMore
attribute [local go_sem] max2_int min2_int max_two min_two max_three min_three max_four min_four   -- for this text's walks alone
set_option linter.unusedVariables false
set_option linter.unusedSimpArgs false
end Go.Proofs.YtkfkbebpcmmnfaaDoor.P
end

section
namespace Go.Proofs.YtkfkbebpcmmnfaaDoor.P
open Go.RowKit Go.Proofs.YtkfkbebpcmmnfaaDoorW.PrintWords Go.Proofs.YtkfkbebpcmmnfaaDoorW.PrintLast Go.Proofs.YtkfkbebpcmmnfaaDoorW.PrintMore
attribute [local go_sem] max2_int min2_int max_two min_two max_three min_three max_four min_four   -- for this text's walks alone
set_option linter.unusedVariables false
set_option linter.unusedSimpArgs false
end Go.Proofs.YtkfkbebpcmmnfaaDoor.P
end

section
namespace Go.Proofs.YtkfkbebpcmmnfaaDoor.P
open Go.RowKit Go.Proofs.YtkfkbebpcmmnfaaDoorW.PrintWords Go.Proofs.YtkfkbebpcmmnfaaDoorW.PrintLast Go.Proofs.YtkfkbebpcmmnfaaDoorW.PrintMore
attribute [local go_sem] max2_int min2_int max_two min_two max_three min_three max_four min_four   -- for this text's walks alone
set_option linter.unusedVariables false
set_option linter.unusedSimpArgs false
end Go.Proofs.YtkfkbebpcmmnfaaDoor.P
end

section
namespace Go.Proofs.YtkfkbebpcmmnfaaDoor.P
open Go.RowKit Go.Proofs.YtkfkbebpcmmnfaaDoorW.PrintWords Go.Proofs.YtkfkbebpcmmnfaaDoorW.PrintLast Go.Proofs.YtkfkbebpcmmnfaaDoorW.PrintMore
attribute [local go_sem] max2_int min2_int max_two min_two max_three min_three max_four min_four   -- for this text's walks alone
set_option linter.unusedVariables false
set_option linter.unusedSimpArgs false
end Go.Proofs.YtkfkbebpcmmnfaaDoor.P
end

section
namespace Go.Proofs.YtkfkbebpcmmnfaaDoor.P
open Go.RowKit
set_option linter.unusedVariables false
set_option linter.unusedSimpArgs false
theorem clamp_eq (a lo hi : Int) : sat_Clamp.f a lo hi = some (if a < lo then lo else if a > hi then hi else a) := by
  unfold sat_Clamp.f
  split
  · rfl
  · split <;> rfl
end Go.Proofs.YtkfkbebpcmmnfaaDoor.P
end

section
namespace Go.Proofs.YtkfkbebpcmmnfaaDoor.P
open Go.RowKit
set_option linter.unusedVariables false
set_option linter.unusedSimpArgs false
end Go.Proofs.YtkfkbebpcmmnfaaDoor.P
end

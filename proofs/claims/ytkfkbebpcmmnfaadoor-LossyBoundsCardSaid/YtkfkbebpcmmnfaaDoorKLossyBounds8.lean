-- PUT TOGETHER by a program of this session: of the claim's texts, what is used
import Derived.Test.YtkfkbebpcmmnfaaDoorKLossyBounds7
section
namespace Go.Proofs.YtkfkbebpcmmnfaaDoor.P
open Go.RowKit Go.Proofs.YtkfkbebpcmmnfaaDoorW.PrintWords Go.Proofs.YtkfkbebpcmmnfaaDoorW.PrintLast Go.Proofs.YtkfkbebpcmmnfaaDoorW.PrintMore
attribute [local go_sem] max2_int min2_int max_two min_two max_three min_three max_four min_four   -- for this text's walks alone
set_option linter.unusedVariables false
set_option linter.unusedSimpArgs false
def lrow (r n : Int) : Option Int := if n ≤ 5 then (muldiv_Do.f r (wrap64 (105 - wrap64 0)) 100 3).bind fun q => some (wrap64 (q + 1000)) else if n ≤ 26 then (muldiv_Do.f r (wrap64 (1 - wrap64 0)) 1 1).bind fun q => some (wrap64 q) else (muldiv_Do.f r (wrap64 (512 - wrap64 n)) 512 1).bind fun q => some (wrap64 q)
def lossy_Lossy_Update.f (s0_0 : Int) (s0_1 : Int) (s0_2 : Int) (s0_3 : Bool) (s0_4 : Int) (a1 : Int) (a2 : Int) : Option (Int × Int × Int × Int × Bool × Int) := (sat_Clamp.f a2 0 1125899906842624).bind fun t => (if s0_3 = true ∧ wrap64 (t - s0_4) < 200000 then some (s0_0, s0_0, s0_1, s0_2, s0_3, s0_4) else ((sat_Clamp.f a1 0 256).bind fun n => ((lrow s0_0 n).bind fun q => ((sat_Clamp.f q s0_1 s0_2).bind fun t3 => some (t3, t3, s0_1, s0_2, true, t)))))
def lossy_Lossy_Update.nilrecv.f (a1 : Int) (a2 : Int) : Option Int := some 0
def GL (w : World) : Prop := w.cell? ⟨0, 0, none⟩ = some (.int .i64 5) ∧ w.cell? ⟨0, 1, none⟩ = some (.int .i64 105) ∧ w.cell? ⟨0, 2, none⟩ = some (.int .i64 100) ∧ w.cell? ⟨0, 3, none⟩ = some (.int .i64 1000) ∧ w.cell? ⟨0, 4, none⟩ = some (.int .i64 0) ∧ w.cell? ⟨0, 5, none⟩ = some (.int .i64 26) ∧ w.cell? ⟨0, 6, none⟩ = some (.int .i64 1) ∧ w.cell? ⟨0, 7, none⟩ = some (.int .i64 1) ∧ w.cell? ⟨0, 8, none⟩ = some (.int .i64 0) ∧ w.cell? ⟨0, 9, none⟩ = some (.int .i64 0) ∧ w.cell? ⟨0, 10, none⟩ = some (.int .i64 256) ∧ w.cell? ⟨0, 11, none⟩ = some (.int .i64 512) ∧ w.cell? ⟨0, 12, none⟩ = some (.int .i64 512) ∧ w.cell? ⟨0, 13, none⟩ = some (.int .i64 0) ∧ w.cell? ⟨0, 14, none⟩ = some (.int .i64 1)
theorem GL.below {w w1 : World} (h : GL w) (hb : Below w.heap.size w w1) : GL w1 := by
 unfold GL at h ⊢
 obtain ⟨h0, h1, h2, h3, h4, h5, h6, h7, h8, h9, h10, h11, h12, h13, h14⟩ := h
 exact ⟨pw_cell_below hb h0, pw_cell_below hb h1, pw_cell_below hb h2, pw_cell_below hb h3, pw_cell_below hb h4, pw_cell_below hb h5, pw_cell_below hb h6, pw_cell_below hb h7, pw_cell_below hb h8, pw_cell_below hb h9, pw_cell_below hb h10, pw_cell_below hb h11, pw_cell_below hb h12, pw_cell_below hb h13, pw_cell_below hb h14⟩
theorem namedG_ {P : Program} {Q : Exit → Act → World → Prop} {a : Act} {W : World} {c : Code} (h : ∀ W_, W_ = W → c.wp P Q a W_) : c.wp P Q a W := h W rfl
theorem sizeG_ (w : World) (o : Obj) : (w.alloc o).heap.size = w.heap.size + 1 := by show (w.heap.push _).size = _; exact Array.size_push _
structure LK (w0 w W : World) (g : Nat) (f0 f1 f2 : Int) (f3 : Bool) (f4 : Int) : Prop where
 st : IsS42 w0 W g f0 f1 f2 f3 f4
 bel : Below w0.heap.size w0 W
 keep : KeepBut w W g none
theorem LK.drew {w0 w W : World} {g : Nat} {f0 f1 f2 : Int} {f3 : Bool} {f4 : Int} (h : LK w0 w W g f0 f1 f2 f3 f4) : LK w0 w W.drew g f0 f1 f2 f3 f4 :=
 ⟨IsS42.drew h.st, below_drew1 h.bel, keep_drew h.keep⟩
theorem LK.drewN {w0 w W : World} {g : Nat} {f0 f1 f2 : Int} {f3 : Bool} {f4 : Int} (h : LK w0 w W g f0 f1 f2 f3 f4) (n : Nat) : LK w0 w (W.drewN n) g f0 f1 f2 f3 f4 :=
 ⟨IsS42.drewN h.st n, pw_below_drewN h.bel n, keep_drewN h.keep n⟩
structure LH (w0 w W : World) (g b : Nat) (f0 f1 f2 : Int) (f3 : Bool) (f4 r0 r1 r2 r3 r4 : Int) : Prop where
 st : IsS42 w0 W g f0 f1 f2 f3 f4
 bel : Below w0.heap.size w0 W
 keep : KeepBut w W g none
 row : W.heap[b]? = some (.cells #[.int .i64 r0, .int .i64 r1, .int .i64 r2, .int .i64 r3, .int .i64 r4] 45 (0, 0))
theorem LH.below {w0 w W W1 : World} {g b : Nat} {f0 f1 f2 : Int} {f3 : Bool} {f4 r0 r1 r2 r3 r4 : Int} (h : LH w0 w W g b f0 f1 f2 f3 f4 r0 r1 r2 r3 r4) (hb : Below W.heap.size W W1) : LH w0 w W1 g b f0 f1 f2 f3 f4 r0 r1 r2 r3 r4 :=
 ⟨IsS42.below h.st hb, below_step h.bel hb, KeepBut.trans h.keep (KeepBut.of_below hb g none) (.inl rfl), blk_below h.row hb⟩
theorem LH.drew {w0 w W : World} {g b : Nat} {f0 f1 f2 : Int} {f3 : Bool} {f4 r0 r1 r2 r3 r4 : Int} (h : LH w0 w W g b f0 f1 f2 f3 f4 r0 r1 r2 r3 r4) : LH w0 w W.drew g b f0 f1 f2 f3 f4 r0 r1 r2 r3 r4 :=
 ⟨IsS42.drew h.st, below_drew1 h.bel, keep_drew h.keep, blk_drew h.row⟩
set_option maxHeartbeats 8000000 in
set_option maxRecDepth 100000 in
theorem lossy_upd0 (g : Nat) (s0_0 s0_1 s0_2 : Int) (s0_3 : Bool) (s0_4 a1 a2 n t : Int) (w0 w : World) (hI : IsS42 w0 w g s0_0 s0_1 s0_2 s0_3 s0_4) (hB : Below w0.heap.size w0 w) (hG : GL w0) (q : Int) (Aq : muldiv_Do.f s0_0 (wrap64 (105 - wrap64 0)) 100 3 = some q) (t3 : Int) (A3 : sat_Clamp.f (wrap64 (q + 1000)) s0_1 s0_2 = some t3) (At : sat_Clamp.f a2 0 1125899906842624 = some t) (An : sat_Clamp.f a1 0 256 = some n) (cn : n ≤ 5) (hn : n ≤ 256) (c : s0_3 = false ∨ s0_3 = true ∧ decide (wrap64 (t - s0_4) < 200000) = false) :
  Calls Tryd.prog 9 #[.pointer (some ⟨g, 0, none⟩), .int .i64 a1, .int .i64 a2] w fun e w' => e = .returned (.int .i64 t3) ∧ IsS42 w0 w' g t3 s0_1 s0_2 true t ∧ Below w0.heap.size w0 w' ∧ KeepBut w w' g none := by
 have hpn : ∀ (a_ : Addr) (W_ : World), (Go.binOp .eql 24 (.pointer (some a_)) (.pointer none)).run Tryd.prog W_ = .ok (.bool false) W_ := fun _ _ => by kernel_rfl
 have hix0 : ∀ W_ : World, (Instr.index 46 (.agg #[.int .i64 5, .int .i64 105, .int .i64 100, .int .i64 1000, .int .i64 0, .int .i64 26, .int .i64 1, .int .i64 1, .int .i64 0, .int .i64 0, .int .i64 256, .int .i64 512, .int .i64 512, .int .i64 0, .int .i64 1]) (.int .i64 0)).run Tryd.prog W_ = .ok (.agg #[.int .i64 5, .int .i64 105, .int .i64 100, .int .i64 1000, .int .i64 0]) W_ := fun _ => by kernel_rfl
 have hix1 : ∀ W_ : World, (Instr.index 46 (.agg #[.int .i64 5, .int .i64 105, .int .i64 100, .int .i64 1000, .int .i64 0, .int .i64 26, .int .i64 1, .int .i64 1, .int .i64 0, .int .i64 0, .int .i64 256, .int .i64 512, .int .i64 512, .int .i64 0, .int .i64 1]) (.int .i64 1)).run Tryd.prog W_ = .ok (.agg #[.int .i64 26, .int .i64 1, .int .i64 1, .int .i64 0, .int .i64 0]) W_ := fun _ => by kernel_rfl
 have hix2 : ∀ W_ : World, (Instr.index 46 (.agg #[.int .i64 5, .int .i64 105, .int .i64 100, .int .i64 1000, .int .i64 0, .int .i64 26, .int .i64 1, .int .i64 1, .int .i64 0, .int .i64 0, .int .i64 256, .int .i64 512, .int .i64 512, .int .i64 0, .int .i64 1]) (.int .i64 2)).run Tryd.prog W_ = .ok (.agg #[.int .i64 256, .int .i64 512, .int .i64 512, .int .i64 0, .int .i64 1]) W_ := fun _ => by kernel_rfl
 have cn0_ : decide (5 < n) = false := decide_eq_false (by omega)
 rcases c with c | ⟨c, hc⟩
 ·subst c
  go_enter Tryd.func9, Tryd.ntmps9
  go_wp2_with (first | ((with_reducible refine gate_dst (N := 14) rfl ?_); refine goesL_ (some 14) rfl rfl Tryd.func15 (by kernel_rfl) rfl #[.int .i64 a2, .int .i64 0, .int .i64 1125899906842624] rfl (by (try simp only [List.map_toArray, List.map_cons, List.map_nil]); first | done | rfl) ?_; (with_reducible refine (sat_Clamp.calls a2 0 1125899906842624 t _ At).mono ?_); rintro e w' ⟨rfl, ⟨nd, rfl⟩⟩; refine ⟨_, rfl, ?_⟩; have hI1 := IsS42.drewN hI nd; have hB1 := pw_below_drewN hB nd; have hK1 := keep_drewN (KeepBut.refl w g none) nd; generalize World.drewN w nd = W1 at hI1 hB1 hK1 ⊢; have hc0_ : W1.cell? ⟨g, 0, none⟩ = some (.int .i64 s0_0) := IsS42.cell_0 hI1; have hf0_ := IsS42.froz_0 hI1; have hc1_ : W1.cell? ⟨g, 1, none⟩ = some (.int .i64 s0_1) := IsS42.cell_1 hI1; have hf1_ := IsS42.froz_1 hI1; have hc2_ : W1.cell? ⟨g, 2, none⟩ = some (.int .i64 s0_2) := IsS42.cell_2 hI1; have hf2_ := IsS42.froz_2 hI1; have hc3_ : W1.cell? ⟨g, 3, none⟩ = some (.bool false) := IsS42.cell_3 hI1; have hf3_ := IsS42.froz_3 hI1; have hc4_ : W1.cell? ⟨g, 4, none⟩ = some (.int .i64 s0_4) := IsS42.cell_4 hI1; have hf4_ := IsS42.froz_4 hI1) | ((with_reducible refine gate_dst (N := 40) rfl ?_); refine goesL_ (some 40) rfl rfl Tryd.func15 (by kernel_rfl) rfl #[.int .i64 a1, .int .i64 0, .int .i64 256] rfl (by (try simp only [List.map_toArray, List.map_cons, List.map_nil]); first | done | rfl) ?_; (with_reducible refine (sat_Clamp.calls a1 0 256 n _ An).mono ?_); rintro e w' ⟨rfl, ⟨nd, rfl⟩⟩; refine ⟨_, rfl, ?_⟩; have hI2 := IsS42.drewN (IsS42.set_4 (IsS42.set_3 hI1 true) t) nd; have hB2 := pw_below_drewN (below_set (below_set hB1 (IsS42.ge hI1) (j := 3) (v := .bool true)) (IsS42.ge hI1) (j := 4) (v := .int .i64 t)) nd; have hK2 := keep_drewN (KeepBut.set_ (KeepBut.set_ hK1 3 (.bool true)) 4 (.int .i64 t)) nd; clear hI1 hB1 hK1; clear hc0_ hf0_ hc1_ hf1_ hc2_ hf2_ hc3_ hf3_ hc4_ hf4_; generalize World.drewN ((W1.setCell ⟨g, 3, none⟩ (.bool true)).setCell ⟨g, 4, none⟩ (.int .i64 t)) nd = W2 at hI2 hB2 hK2 ⊢; have hc0_ : W2.cell? ⟨g, 0, none⟩ = some (.int .i64 s0_0) := IsS42.cell_0 hI2; have hf0_ := IsS42.froz_0 hI2; have hc1_ : W2.cell? ⟨g, 1, none⟩ = some (.int .i64 s0_1) := IsS42.cell_1 hI2; have hf1_ := IsS42.froz_1 hI2; have hc2_ : W2.cell? ⟨g, 2, none⟩ = some (.int .i64 s0_2) := IsS42.cell_2 hI2; have hf2_ := IsS42.froz_2 hI2; have hc3_ : W2.cell? ⟨g, 3, none⟩ = some (.bool true) := IsS42.cell_3 hI2; have hf3_ := IsS42.froz_3 hI2; have hc4_ : W2.cell? ⟨g, 4, none⟩ = some (.int .i64 t) := IsS42.cell_4 hI2; have hf4_ := IsS42.froz_4 hI2; have hG2 := hG.below hB2; obtain ⟨q0, q1, q2, q3, q4, q5, q6, q7, q8, q9, q10, q11, q12, q13, q14⟩ := hG2))
  refine wp_loop_rounds 4 ?_
  rw [rounds_succ]
  go_wp2
  refine namedG_ ?_
  intro W3 hW3
  have h1 : LH w0 w W3 g W2.heap.size s0_0 s0_1 s0_2 true t 5 105 100 1000 0 := by rw [hW3]; exact ⟨IsS42.alloc (hI2) _, below_alloc (hB2) _, keep_alloc (hK2) _, blk_new _ _⟩
  clear hW3 hI2 hB2 hK2
  generalize W2.heap.size = b at h1 ⊢
  refine start_ (n := 22) (S := fun w' => LH w0 w w' g b s0_0 s0_1 s0_2 true t 5 105 100 1000 0) (ds := [21]) #[false, false, false, false, false, false, false, false, false, false, false, false, false, false, false, false, false, false, false, false, false, false] (by kernel_rfl) rfl rfl h1.drew (fun hHeld => ?_)
  clear h1
  generalize W3.drew = W3 at hHeld ⊢
  refine pure_ (i := 0) (N := some 52) (v := ?_) (a' := ?_) #[true, false, false, false, false, false, false, false, false, false, false, false, false, false, false, false, false, false, false, false, false, false] rfl rfl (by kernel_rfl) (fun _ _ _ h => h) (Or.inl ⟨by rfl, ?_⟩) ?_ ?_
  rotate_left
  ·intro w'
   go_simp
   with_reducible rfl
  rotate_left
  ·simp only [Act.put, List.setIfInBounds_toArray, List.set_cons_zero, List.set_cons_succ, i64_w, i32_w]
   rfl
  refine pure_ (i := 1) (N := some 53) (v := ?_) (a' := ?_) #[true, true, false, false, false, false, false, false, false, false, false, false, false, false, false, false, false, false, false, false, false, false] rfl rfl (by kernel_rfl) (fun _ _ _ h => h) (Or.inl ⟨by rfl, ?_⟩) ?_ ?_
  rotate_left
  ·intro w'
   go_simp
   with_reducible rfl
  rotate_left
  ·simp only [Act.put, List.setIfInBounds_toArray, List.set_cons_zero, List.set_cons_succ, i64_w, i32_w]
   rfl
  refine pure_ (i := 2) (N := some 54) (v := ?_) (a' := ?_) #[true, true, true, false, false, false, false, false, false, false, false, false, false, false, false, false, false, false, false, false, false, false] rfl rfl (by kernel_rfl) (fun _ _ _ h => h) (Or.inl ⟨by rfl, ?_⟩) ?_ ?_
  rotate_left
  ·intro w'
   go_simp
   with_reducible rfl
  rotate_left
  ·simp only [Act.put, List.setIfInBounds_toArray, List.set_cons_zero, List.set_cons_succ, i64_w, i32_w]
   rfl
  refine pure_ (i := 3) (N := some 55) (v := ?_) (a' := ?_) #[true, true, true, true, false, false, false, false, false, false, false, false, false, false, false, false, false, false, false, false, false, false] rfl rfl (by kernel_rfl) (fun _ _ _ h => h) (Or.inl ⟨by rfl, ?_⟩) ?_ ?_
  rotate_left
  ·intro w'
   go_simp
   with_reducible rfl
  rotate_left
  ·simp only [Act.put, List.setIfInBounds_toArray, List.set_cons_zero, List.set_cons_succ, i64_w, i32_w]
   rfl
  refine take_ (i := 4) (N := some 56) (v := ?_) (a' := ?_) #[true, true, true, true, true, false, false, false, false, false, false, false, false, false, false, false, false, false, false, false, false, false] rfl rfl (by kernel_rfl) (fun _ _ _ h => h) (Or.inl ⟨by rfl, ?_⟩) hHeld ?_ ?_
  rotate_left
  ·intro w' hw'
   have cb0_ : w'.cell? ⟨g, 0, none⟩ = some (.int .i64 s0_0) := IsS42.cell_0 hw'.st
   go_simp
   with_reducible rfl
  rotate_left
  ·simp only [Act.put, List.setIfInBounds_toArray, List.set_cons_zero, List.set_cons_succ, i64_w, i32_w]
   rfl
  refine pure_ (i := 5) (N := some 57) (v := ?_) (a' := ?_) #[true, true, true, true, true, true, false, false, false, false, false, false, false, false, false, false, false, false, false, false, false, false] rfl rfl (by kernel_rfl) (fun _ _ _ h => h) (Or.inl ⟨by rfl, ?_⟩) ?_ ?_
  rotate_left
  ·intro w'
   go_simp
   with_reducible rfl
  rotate_left
  ·simp only [Act.put, List.setIfInBounds_toArray, List.set_cons_zero, List.set_cons_succ, i64_w, i32_w]
   rfl
  refine take_ (i := 6) (N := some 58) (v := ?_) (a' := ?_) #[true, true, true, true, true, true, true, false, false, false, false, false, false, false, false, false, false, false, false, false, false, false] rfl rfl (by kernel_rfl) (fun _ _ _ h => h) (Or.inl ⟨by rfl, ?_⟩) hHeld ?_ ?_
  rotate_left
  ·intro w' hw'
   have cb0_ : w'.cell? ⟨b, 1, none⟩ = some (.int .i64 105) := (blk_cell hw'.row 1).trans rfl
   go_simp
   with_reducible rfl
  rotate_left
  ·simp only [Act.put, List.setIfInBounds_toArray, List.set_cons_zero, List.set_cons_succ, i64_w, i32_w]
   rfl
  refine pure_ (i := 7) (N := some 59) (v := ?_) (a' := ?_) #[true, true, true, true, true, true, true, true, false, false, false, false, false, false, false, false, false, false, false, false, false, false] rfl rfl (by kernel_rfl) (fun _ _ _ h => h) (Or.inl ⟨by rfl, ?_⟩) ?_ ?_
  rotate_left
  ·intro w'
   go_simp
   with_reducible rfl
  rotate_left
  ·simp only [Act.put, List.setIfInBounds_toArray, List.set_cons_zero, List.set_cons_succ, i64_w, i32_w]
   rfl
  refine take_ (i := 8) (N := some 60) (v := ?_) (a' := ?_) #[true, true, true, true, true, true, true, true, true, false, false, false, false, false, false, false, false, false, false, false, false, false] rfl rfl (by kernel_rfl) (fun _ _ _ h => h) (Or.inl ⟨by rfl, ?_⟩) hHeld ?_ ?_
  rotate_left
  ·intro w' hw'
   have cb0_ : w'.cell? ⟨b, 4, none⟩ = some (.int .i64 0) := (blk_cell hw'.row 4).trans rfl
   go_simp
   with_reducible rfl
  rotate_left
  ·simp only [Act.put, List.setIfInBounds_toArray, List.set_cons_zero, List.set_cons_succ, i64_w, i32_w]
   rfl
  refine pure_ (i := 9) (N := some 61) (v := ?_) (a' := ?_) #[true, true, true, true, true, true, true, true, true, true, false, false, false, false, false, false, false, false, false, false, false, false] rfl rfl (by kernel_rfl) (fun _ _ _ h => h) (Or.inl ⟨by rfl, ?_⟩) ?_ ?_
  rotate_left
  ·intro w'
   go_simp
   with_reducible rfl
  rotate_left
  ·simp only [Act.put, List.setIfInBounds_toArray, List.set_cons_zero, List.set_cons_succ, i64_w, i32_w]
   rfl
  refine pure_ (i := 10) (N := some 62) (v := ?_) (a' := ?_) #[true, true, true, true, true, true, true, true, true, true, true, false, false, false, false, false, false, false, false, false, false, false] rfl rfl (by kernel_rfl) (fun _ _ _ h => h) (Or.inl ⟨by rfl, ?_⟩) ?_ ?_
  rotate_left
  ·intro w'
   go_simp
   with_reducible rfl
  rotate_left
  ·simp only [Act.put, List.setIfInBounds_toArray, List.set_cons_zero, List.set_cons_succ, i64_w, i32_w]
   rfl
  refine pure_ (i := 11) (N := some 63) (v := ?_) (a' := ?_) #[true, true, true, true, true, true, true, true, true, true, true, true, false, false, false, false, false, false, false, false, false, false] rfl rfl (by kernel_rfl) (fun _ _ _ h => h) (Or.inl ⟨by rfl, ?_⟩) ?_ ?_
  rotate_left
  ·intro w'
   go_simp
   with_reducible rfl
  rotate_left
  ·simp only [Act.put, List.setIfInBounds_toArray, List.set_cons_zero, List.set_cons_succ, i64_w, i32_w]
   rfl
  refine pure_ (i := 12) (N := some 64) (v := ?_) (a' := ?_) #[true, true, true, true, true, true, true, true, true, true, true, true, true, false, false, false, false, false, false, false, false, false] rfl rfl (by kernel_rfl) (fun _ _ _ h => h) (Or.inl ⟨by rfl, ?_⟩) ?_ ?_
  rotate_left
  ·intro w'
   go_simp
   with_reducible rfl
  rotate_left
  ·simp only [Act.put, List.setIfInBounds_toArray, List.set_cons_zero, List.set_cons_succ, i64_w, i32_w]
   rfl
  refine take_ (i := 13) (N := some 65) (v := ?_) (a' := ?_) #[true, true, true, true, true, true, true, true, true, true, true, true, true, true, false, false, false, false, false, false, false, false] rfl rfl (by kernel_rfl) (fun _ _ _ h => h) (Or.inl ⟨by rfl, ?_⟩) hHeld ?_ ?_
  rotate_left
  ·intro w' hw'
   have cb0_ : w'.cell? ⟨b, 2, none⟩ = some (.int .i64 100) := (blk_cell hw'.row 2).trans rfl
   go_simp
   with_reducible rfl
  rotate_left
  ·simp only [Act.put, List.setIfInBounds_toArray, List.set_cons_zero, List.set_cons_succ, i64_w, i32_w]
   rfl
  refine pure_ (i := 14) (N := some 66) (v := ?_) (a' := ?_) #[true, true, true, true, true, true, true, true, true, true, true, true, true, true, true, false, false, false, false, false, false, false] rfl rfl (by kernel_rfl) (fun _ _ _ h => h) (Or.inl ⟨by rfl, ?_⟩) ?_ ?_
  rotate_left
  ·intro w'
   go_simp
   with_reducible rfl
  rotate_left
  ·simp only [Act.put, List.setIfInBounds_toArray, List.set_cons_zero, List.set_cons_succ, i64_w, i32_w]
   rfl
  refine pure_ (i := 16) (N := some 68) (v := ?_) (a' := ?_) #[true, true, true, true, true, true, true, true, true, true, true, true, true, true, true, false, true, false, false, false, false, false] rfl rfl (by kernel_rfl) (fun _ _ _ h => h) (Or.inl ⟨by rfl, ?_⟩) ?_ ?_
  rotate_left
  ·intro w'
   go_simp
   with_reducible rfl
  rotate_left
  ·simp only [Act.put, List.setIfInBounds_toArray, List.set_cons_zero, List.set_cons_succ, i64_w, i32_w]
   rfl
  refine take_ (i := 17) (N := some 69) (v := ?_) (a' := ?_) #[true, true, true, true, true, true, true, true, true, true, true, true, true, true, true, false, true, true, false, false, false, false] rfl rfl (by kernel_rfl) (fun _ _ _ h => h) (Or.inl ⟨by rfl, ?_⟩) hHeld ?_ ?_
  rotate_left
  ·intro w' hw'
   have cb0_ : w'.cell? ⟨b, 3, none⟩ = some (.int .i64 1000) := (blk_cell hw'.row 3).trans rfl
   go_simp
   with_reducible rfl
  rotate_left
  ·simp only [Act.put, List.setIfInBounds_toArray, List.set_cons_zero, List.set_cons_succ, i64_w, i32_w]
   rfl
  refine one_ (i := 15) (N := some 67) #[true, true, true, true, true, true, true, true, true, true, true, true, true, true, true, true, true, true, false, false, false, false] rfl rfl (by kernel_rfl) (by decide) (fun K hK => ?_)
  refine goes_ Tryd.func16 (by kernel_rfl) rfl #[.int .i64 s0_0, .int .i64 (wrap64 (105 - wrap64 0)), .int .i64 100, .int .i64 3] (by rfl) rfl rfl (by simp only [List.map_toArray, List.map_cons, List.map_nil]; rfl) ?_
  refine (muldiv_Do.calls s0_0 _ 100 3 q _ Aq).mono ?_
  rintro e w' ⟨rfl, hb⟩
  refine ⟨_, rfl, ?_⟩
  have hN_ := hHeld.below hb
  refine hK.out _ _ hN_ (fun hHeld => ?_)
  clear hK K hN_ hb
  refine norm_ (a' := ?_) ?_ ?_
  rotate_left
  ·show Act.put _ (some 67) _ = _
   simp only [Act.put, List.setIfInBounds_toArray, List.set_cons_zero, List.set_cons_succ, i64_w, i32_w]
   rfl
  refine pure_ (i := 18) (N := some 70) (v := ?_) (a' := ?_) #[true, true, true, true, true, true, true, true, true, true, true, true, true, true, true, true, true, true, true, false, false, false] rfl rfl (by kernel_rfl) (fun _ _ _ h => h) (Or.inl ⟨by rfl, ?_⟩) ?_ ?_
  rotate_left
  ·intro w'
   go_simp
   with_reducible rfl
  rotate_left
  ·simp only [Act.put, List.setIfInBounds_toArray, List.set_cons_zero, List.set_cons_succ, i64_w, i32_w]
   rfl
  refine pure_ (i := 19) (N := some 71) (v := ?_) (a' := ?_) #[true, true, true, true, true, true, true, true, true, true, true, true, true, true, true, true, true, true, true, true, false, false] rfl rfl (by kernel_rfl) (fun _ _ _ h => h) (Or.inl ⟨by rfl, ?_⟩) ?_ ?_
  rotate_left
  ·intro w'
   go_simp
   with_reducible rfl
  rotate_left
  ·simp only [Act.put, List.setIfInBounds_toArray, List.set_cons_zero, List.set_cons_succ, i64_w, i32_w]
   rfl
  refine pure_ (i := 20) (N := some 72) (v := ?_) (a' := ?_) #[true, true, true, true, true, true, true, true, true, true, true, true, true, true, true, true, true, true, true, true, true, false] rfl rfl (by kernel_rfl) (fun _ _ _ h => h) (Or.inl ⟨by rfl, ?_⟩) ?_ ?_
  rotate_left
  ·intro w'
   go_simp
   with_reducible rfl
  rotate_left
  ·simp only [Act.put, List.setIfInBounds_toArray, List.set_cons_zero, List.set_cons_succ, i64_w, i32_w]
   rfl
  refine last_ (i := 21) (N := none) #[true, true, true, true, true, true, true, true, true, true, true, true, true, true, true, true, true, true, true, true, true, true] rfl rfl (by kernel_rfl) (by decide) (fun K hK => ?_)
  have hs0_ : w'.cell? ⟨g, 0, none⟩ = some (.int .i64 s0_0) := IsS42.cell_0 hHeld.st
  have hf0_ := IsS42.froz_0 hHeld.st
  refine skip_ (w1 := ?_) (by rfl) rfl ?_ ?_
  rotate_left
  ·go_simp
   rfl
  refine hK.out _ _ ?_
  refine done_ (by kernel_rfl) ?_
  clear hK K
  clear hs0_
  clear hf0_
  have h2 : IsS42 w0 (w'.setCell ⟨g, 0, none⟩ (.int .i64 (wrap64 (q + 1000)))) g (wrap64 (q + 1000)) s0_1 s0_2 true t := IsS42.set_0 hHeld.st _
  have hb2 := below_set hHeld.bel (IsS42.ge hHeld.st) (j := 0) (v := .int .i64 (wrap64 (q + 1000)))
  have hk2 := KeepBut.set_ hHeld.keep 0 (.int .i64 (wrap64 (q + 1000)))
  clear hHeld
  generalize w'.setCell ⟨g, 0, none⟩ (.int .i64 (wrap64 (q + 1000))) = W5 at h2 hb2 hk2 ⊢
  try go_wp2
  have h3 : LK w0 w W5 g (wrap64 (q + 1000)) s0_1 s0_2 true t := ⟨h2, hb2, hk2⟩
  clear h2 hb2 hk2
  refine start_ (n := 17) (S := fun w' => LK w0 w w' g (wrap64 (q + 1000)) s0_1 s0_2 true t) (ds := [16]) #[false, false, false, false, false, false, false, false, false, false, false, false, false, false, false, false, false] (by kernel_rfl) rfl rfl h3.drew (fun hHeld => ?_)
  clear h3
  generalize W5.drew = W5 at hHeld ⊢
  refine pure_ (i := 0) (N := some 74) (v := ?_) (a' := ?_) #[true, false, false, false, false, false, false, false, false, false, false, false, false, false, false, false, false] rfl rfl (by kernel_rfl) (fun _ _ _ h => h) (Or.inl ⟨by rfl, ?_⟩) ?_ ?_
  rotate_left
  ·intro w'
   go_simp
   with_reducible rfl
  rotate_left
  ·simp only [Act.put, List.setIfInBounds_toArray, List.set_cons_zero, List.set_cons_succ, i64_w, i32_w]
   rfl
  refine pure_ (i := 1) (N := some 75) (v := ?_) (a' := ?_) #[true, true, false, false, false, false, false, false, false, false, false, false, false, false, false, false, false] rfl rfl (by kernel_rfl) (fun _ _ _ h => h) (Or.inl ⟨by rfl, ?_⟩) ?_ ?_
  rotate_left
  ·intro w'
   go_simp
   with_reducible rfl
  rotate_left
  ·simp only [Act.put, List.setIfInBounds_toArray, List.set_cons_zero, List.set_cons_succ, i64_w, i32_w]
   rfl
  refine pure_ (i := 2) (N := some 76) (v := ?_) (a' := ?_) #[true, true, true, false, false, false, false, false, false, false, false, false, false, false, false, false, false] rfl rfl (by kernel_rfl) (fun _ _ _ h => h) (Or.inl ⟨by rfl, ?_⟩) ?_ ?_
  rotate_left
  ·intro w'
   go_simp
   with_reducible rfl
  rotate_left
  ·simp only [Act.put, List.setIfInBounds_toArray, List.set_cons_zero, List.set_cons_succ, i64_w, i32_w]
   rfl
  refine pure_ (i := 3) (N := some 77) (v := ?_) (a' := ?_) #[true, true, true, true, false, false, false, false, false, false, false, false, false, false, false, false, false] rfl rfl (by kernel_rfl) (fun _ _ _ h => h) (Or.inl ⟨by rfl, ?_⟩) ?_ ?_
  rotate_left
  ·intro w'
   go_simp
   with_reducible rfl
  rotate_left
  ·simp only [Act.put, List.setIfInBounds_toArray, List.set_cons_zero, List.set_cons_succ, i64_w, i32_w]
   rfl
  refine take_ (i := 4) (N := some 78) (v := ?_) (a' := ?_) #[true, true, true, true, true, false, false, false, false, false, false, false, false, false, false, false, false] rfl rfl (by kernel_rfl) (fun _ _ _ h => h) (Or.inl ⟨by rfl, ?_⟩) hHeld ?_ ?_
  rotate_left
  ·intro w' hw'
   have cb0_ : w'.cell? ⟨g, 0, none⟩ = some (.int .i64 (wrap64 (q + 1000))) := IsS42.cell_0 hw'.st
   go_simp
   with_reducible rfl
  rotate_left
  ·simp only [Act.put, List.setIfInBounds_toArray, List.set_cons_zero, List.set_cons_succ, i64_w, i32_w]
   rfl
  refine pure_ (i := 5) (N := some 79) (v := ?_) (a' := ?_) #[true, true, true, true, true, true, false, false, false, false, false, false, false, false, false, false, false] rfl rfl (by kernel_rfl) (fun _ _ _ h => h) (Or.inl ⟨by rfl, ?_⟩) ?_ ?_
  rotate_left
  ·intro w'
   go_simp
   with_reducible rfl
  rotate_left
  ·simp only [Act.put, List.setIfInBounds_toArray, List.set_cons_zero, List.set_cons_succ, i64_w, i32_w]
   rfl
  refine pure_ (i := 6) (N := some 80) (v := ?_) (a' := ?_) #[true, true, true, true, true, true, true, false, false, false, false, false, false, false, false, false, false] rfl rfl (by kernel_rfl) (fun _ _ _ h => h) (Or.inl ⟨by rfl, ?_⟩) ?_ ?_
  rotate_left
  ·intro w'
   go_simp
   with_reducible rfl
  rotate_left
  ·simp only [Act.put, List.setIfInBounds_toArray, List.set_cons_zero, List.set_cons_succ, i64_w, i32_w]
   rfl
  refine pure_ (i := 7) (N := some 81) (v := ?_) (a' := ?_) #[true, true, true, true, true, true, true, true, false, false, false, false, false, false, false, false, false] rfl rfl (by kernel_rfl) (fun _ _ _ h => h) (Or.inl ⟨by rfl, ?_⟩) ?_ ?_
  rotate_left
  ·intro w'
   go_simp
   with_reducible rfl
  rotate_left
  ·simp only [Act.put, List.setIfInBounds_toArray, List.set_cons_zero, List.set_cons_succ, i64_w, i32_w]
   rfl
  refine take_ (i := 8) (N := some 82) (v := ?_) (a' := ?_) #[true, true, true, true, true, true, true, true, true, false, false, false, false, false, false, false, false] rfl rfl (by kernel_rfl) (fun _ _ _ h => h) (Or.inl ⟨by rfl, ?_⟩) hHeld ?_ ?_
  rotate_left
  ·intro w' hw'
   have cb0_ : w'.cell? ⟨g, 1, none⟩ = some (.int .i64 s0_1) := IsS42.cell_1 hw'.st
   go_simp
   with_reducible rfl
  rotate_left
  ·simp only [Act.put, List.setIfInBounds_toArray, List.set_cons_zero, List.set_cons_succ, i64_w, i32_w]
   rfl
  refine pure_ (i := 9) (N := some 83) (v := ?_) (a' := ?_) #[true, true, true, true, true, true, true, true, true, true, false, false, false, false, false, false, false] rfl rfl (by kernel_rfl) (fun _ _ _ h => h) (Or.inl ⟨by rfl, ?_⟩) ?_ ?_
  rotate_left
  ·intro w'
   go_simp
   with_reducible rfl
  rotate_left
  ·simp only [Act.put, List.setIfInBounds_toArray, List.set_cons_zero, List.set_cons_succ, i64_w, i32_w]
   rfl
  refine pure_ (i := 10) (N := some 84) (v := ?_) (a' := ?_) #[true, true, true, true, true, true, true, true, true, true, true, false, false, false, false, false, false] rfl rfl (by kernel_rfl) (fun _ _ _ h => h) (Or.inl ⟨by rfl, ?_⟩) ?_ ?_
  rotate_left
  ·intro w'
   go_simp
   with_reducible rfl
  rotate_left
  ·simp only [Act.put, List.setIfInBounds_toArray, List.set_cons_zero, List.set_cons_succ, i64_w, i32_w]
   rfl
  refine pure_ (i := 11) (N := some 85) (v := ?_) (a' := ?_) #[true, true, true, true, true, true, true, true, true, true, true, true, false, false, false, false, false] rfl rfl (by kernel_rfl) (fun _ _ _ h => h) (Or.inl ⟨by rfl, ?_⟩) ?_ ?_
  rotate_left
  ·intro w'
   go_simp
   with_reducible rfl
  rotate_left
  ·simp only [Act.put, List.setIfInBounds_toArray, List.set_cons_zero, List.set_cons_succ, i64_w, i32_w]
   rfl
  refine take_ (i := 12) (N := some 86) (v := ?_) (a' := ?_) #[true, true, true, true, true, true, true, true, true, true, true, true, true, false, false, false, false] rfl rfl (by kernel_rfl) (fun _ _ _ h => h) (Or.inl ⟨by rfl, ?_⟩) hHeld ?_ ?_
  rotate_left
  ·intro w' hw'
   have cb0_ : w'.cell? ⟨g, 2, none⟩ = some (.int .i64 s0_2) := IsS42.cell_2 hw'.st
   go_simp
   with_reducible rfl
  rotate_left
  ·simp only [Act.put, List.setIfInBounds_toArray, List.set_cons_zero, List.set_cons_succ, i64_w, i32_w]
   rfl
  refine one_ (i := 13) (N := some 87) #[true, true, true, true, true, true, true, true, true, true, true, true, true, true, false, false, false] rfl rfl (by kernel_rfl) (by decide) (fun K hK => ?_)
  refine goes_ Tryd.func15 (by kernel_rfl) rfl #[.int .i64 (wrap64 (q + 1000)), .int .i64 s0_1, .int .i64 s0_2] (by rfl) rfl rfl (by simp only [List.map_toArray, List.map_cons, List.map_nil]; rfl) ?_
  with_reducible refine (sat_Clamp.calls (wrap64 (q + 1000)) s0_1 s0_2 t3 _ A3).mono ?_
  rintro e w' ⟨rfl, ⟨nd, rfl⟩⟩
  refine ⟨_, rfl, ?_⟩
  have hN_ := hHeld.drewN nd
  refine hK.out _ _ hN_ (fun hHeld => ?_)
  clear hK K hN_
  generalize W5.drewN nd = W5_ at hHeld ⊢
  refine norm_ (a' := ?_) ?_ ?_
  rotate_left
  ·show Act.put _ (some 87) _ = _
   simp only [Act.put, List.setIfInBounds_toArray, List.set_cons_zero, List.set_cons_succ, i64_w, i32_w]
   rfl
  refine pure_ (i := 14) (N := some 88) (v := ?_) (a' := ?_) #[true, true, true, true, true, true, true, true, true, true, true, true, true, true, true, false, false] rfl rfl (by kernel_rfl) (fun _ _ _ h => h) (Or.inl ⟨by rfl, ?_⟩) ?_ ?_
  rotate_left
  ·intro w'
   go_simp
   with_reducible rfl
  rotate_left
  ·simp only [Act.put, List.setIfInBounds_toArray, List.set_cons_zero, List.set_cons_succ, i64_w, i32_w]
   rfl
  refine pure_ (i := 15) (N := some 89) (v := ?_) (a' := ?_) #[true, true, true, true, true, true, true, true, true, true, true, true, true, true, true, true, false] rfl rfl (by kernel_rfl) (fun _ _ _ h => h) (Or.inl ⟨by rfl, ?_⟩) ?_ ?_
  rotate_left
  ·intro w'
   go_simp
   with_reducible rfl
  rotate_left
  ·simp only [Act.put, List.setIfInBounds_toArray, List.set_cons_zero, List.set_cons_succ, i64_w, i32_w]
   rfl
  refine last_ (i := 16) (N := none) #[true, true, true, true, true, true, true, true, true, true, true, true, true, true, true, true, true] rfl rfl (by kernel_rfl) (by decide) (fun K hK => ?_)
  have hs0_ : W5_.cell? ⟨g, 0, none⟩ = some (.int .i64 (wrap64 (q + 1000))) := IsS42.cell_0 hHeld.st
  have hf0_ := IsS42.froz_0 hHeld.st
  refine skip_ (w1 := ?_) (by rfl) rfl ?_ ?_
  rotate_left
  ·go_simp
   rfl
  refine hK.out _ _ ?_
  refine done_ (by kernel_rfl) ?_
  clear hK K
  clear hs0_
  clear hf0_
  have h4 := IsS42.set_0 hHeld.st t3
  have hb4 := below_set hHeld.bel (IsS42.ge hHeld.st) (j := 0) (v := .int .i64 t3)
  have hk4 := KeepBut.set_ hHeld.keep 0 (.int .i64 t3)
  clear hHeld
  generalize W5_.setCell ⟨g, 0, none⟩ (.int .i64 t3) = W6 at h4 hb4 hk4 ⊢
  have hc0_ := IsS42.cell_0 h4
  go_wp2
  go_ret
  exact ⟨rfl, h4, hb4, hk4⟩
 ·subst c
  go_enter Tryd.func9, Tryd.ntmps9
  go_wp2_with (first | ((with_reducible refine gate_dst (N := 14) rfl ?_); refine goesL_ (some 14) rfl rfl Tryd.func15 (by kernel_rfl) rfl #[.int .i64 a2, .int .i64 0, .int .i64 1125899906842624] rfl (by (try simp only [List.map_toArray, List.map_cons, List.map_nil]); first | done | rfl) ?_; (with_reducible refine (sat_Clamp.calls a2 0 1125899906842624 t _ At).mono ?_); rintro e w' ⟨rfl, ⟨nd, rfl⟩⟩; refine ⟨_, rfl, ?_⟩; have hI1 := IsS42.drewN hI nd; have hB1 := pw_below_drewN hB nd; have hK1 := keep_drewN (KeepBut.refl w g none) nd; generalize World.drewN w nd = W1 at hI1 hB1 hK1 ⊢; have hc0_ : W1.cell? ⟨g, 0, none⟩ = some (.int .i64 s0_0) := IsS42.cell_0 hI1; have hf0_ := IsS42.froz_0 hI1; have hc1_ : W1.cell? ⟨g, 1, none⟩ = some (.int .i64 s0_1) := IsS42.cell_1 hI1; have hf1_ := IsS42.froz_1 hI1; have hc2_ : W1.cell? ⟨g, 2, none⟩ = some (.int .i64 s0_2) := IsS42.cell_2 hI1; have hf2_ := IsS42.froz_2 hI1; have hc3_ : W1.cell? ⟨g, 3, none⟩ = some (.bool true) := IsS42.cell_3 hI1; have hf3_ := IsS42.froz_3 hI1; have hc4_ : W1.cell? ⟨g, 4, none⟩ = some (.int .i64 s0_4) := IsS42.cell_4 hI1; have hf4_ := IsS42.froz_4 hI1) | ((with_reducible refine gate_dst (N := 40) rfl ?_); refine goesL_ (some 40) rfl rfl Tryd.func15 (by kernel_rfl) rfl #[.int .i64 a1, .int .i64 0, .int .i64 256] rfl (by (try simp only [List.map_toArray, List.map_cons, List.map_nil]); first | done | rfl) ?_; (with_reducible refine (sat_Clamp.calls a1 0 256 n _ An).mono ?_); rintro e w' ⟨rfl, ⟨nd, rfl⟩⟩; refine ⟨_, rfl, ?_⟩; have hI2 := IsS42.drewN (IsS42.set_4 (IsS42.set_3 hI1 true) t) nd; have hB2 := pw_below_drewN (below_set (below_set hB1 (IsS42.ge hI1) (j := 3) (v := .bool true)) (IsS42.ge hI1) (j := 4) (v := .int .i64 t)) nd; have hK2 := keep_drewN (KeepBut.set_ (KeepBut.set_ hK1 3 (.bool true)) 4 (.int .i64 t)) nd; clear hI1 hB1 hK1; clear hc0_ hf0_ hc1_ hf1_ hc2_ hf2_ hc3_ hf3_ hc4_ hf4_; generalize World.drewN ((W1.setCell ⟨g, 3, none⟩ (.bool true)).setCell ⟨g, 4, none⟩ (.int .i64 t)) nd = W2 at hI2 hB2 hK2 ⊢; have hc0_ : W2.cell? ⟨g, 0, none⟩ = some (.int .i64 s0_0) := IsS42.cell_0 hI2; have hf0_ := IsS42.froz_0 hI2; have hc1_ : W2.cell? ⟨g, 1, none⟩ = some (.int .i64 s0_1) := IsS42.cell_1 hI2; have hf1_ := IsS42.froz_1 hI2; have hc2_ : W2.cell? ⟨g, 2, none⟩ = some (.int .i64 s0_2) := IsS42.cell_2 hI2; have hf2_ := IsS42.froz_2 hI2; have hc3_ : W2.cell? ⟨g, 3, none⟩ = some (.bool true) := IsS42.cell_3 hI2; have hf3_ := IsS42.froz_3 hI2; have hc4_ : W2.cell? ⟨g, 4, none⟩ = some (.int .i64 t) := IsS42.cell_4 hI2; have hf4_ := IsS42.froz_4 hI2; have hG2 := hG.below hB2; obtain ⟨q0, q1, q2, q3, q4, q5, q6, q7, q8, q9, q10, q11, q12, q13, q14⟩ := hG2))
  refine wp_loop_rounds 4 ?_
  rw [rounds_succ]
  go_wp2
  refine namedG_ ?_
  intro W3 hW3
  have h1 : LH w0 w W3 g W2.heap.size s0_0 s0_1 s0_2 true t 5 105 100 1000 0 := by rw [hW3]; exact ⟨IsS42.alloc (hI2) _, below_alloc (hB2) _, keep_alloc (hK2) _, blk_new _ _⟩
  clear hW3 hI2 hB2 hK2
  generalize W2.heap.size = b at h1 ⊢
  refine start_ (n := 22) (S := fun w' => LH w0 w w' g b s0_0 s0_1 s0_2 true t 5 105 100 1000 0) (ds := [21]) #[false, false, false, false, false, false, false, false, false, false, false, false, false, false, false, false, false, false, false, false, false, false] (by kernel_rfl) rfl rfl h1.drew (fun hHeld => ?_)
  clear h1
  generalize W3.drew = W3 at hHeld ⊢
  refine pure_ (i := 0) (N := some 52) (v := ?_) (a' := ?_) #[true, false, false, false, false, false, false, false, false, false, false, false, false, false, false, false, false, false, false, false, false, false] rfl rfl (by kernel_rfl) (fun _ _ _ h => h) (Or.inl ⟨by rfl, ?_⟩) ?_ ?_
  rotate_left
  ·intro w'
   go_simp
   with_reducible rfl
  rotate_left
  ·simp only [Act.put, List.setIfInBounds_toArray, List.set_cons_zero, List.set_cons_succ, i64_w, i32_w]
   rfl
  refine pure_ (i := 1) (N := some 53) (v := ?_) (a' := ?_) #[true, true, false, false, false, false, false, false, false, false, false, false, false, false, false, false, false, false, false, false, false, false] rfl rfl (by kernel_rfl) (fun _ _ _ h => h) (Or.inl ⟨by rfl, ?_⟩) ?_ ?_
  rotate_left
  ·intro w'
   go_simp
   with_reducible rfl
  rotate_left
  ·simp only [Act.put, List.setIfInBounds_toArray, List.set_cons_zero, List.set_cons_succ, i64_w, i32_w]
   rfl
  refine pure_ (i := 2) (N := some 54) (v := ?_) (a' := ?_) #[true, true, true, false, false, false, false, false, false, false, false, false, false, false, false, false, false, false, false, false, false, false] rfl rfl (by kernel_rfl) (fun _ _ _ h => h) (Or.inl ⟨by rfl, ?_⟩) ?_ ?_
  rotate_left
  ·intro w'
   go_simp
   with_reducible rfl
  rotate_left
  ·simp only [Act.put, List.setIfInBounds_toArray, List.set_cons_zero, List.set_cons_succ, i64_w, i32_w]
   rfl
  refine pure_ (i := 3) (N := some 55) (v := ?_) (a' := ?_) #[true, true, true, true, false, false, false, false, false, false, false, false, false, false, false, false, false, false, false, false, false, false] rfl rfl (by kernel_rfl) (fun _ _ _ h => h) (Or.inl ⟨by rfl, ?_⟩) ?_ ?_
  rotate_left
  ·intro w'
   go_simp
   with_reducible rfl
  rotate_left
  ·simp only [Act.put, List.setIfInBounds_toArray, List.set_cons_zero, List.set_cons_succ, i64_w, i32_w]
   rfl
  refine take_ (i := 4) (N := some 56) (v := ?_) (a' := ?_) #[true, true, true, true, true, false, false, false, false, false, false, false, false, false, false, false, false, false, false, false, false, false] rfl rfl (by kernel_rfl) (fun _ _ _ h => h) (Or.inl ⟨by rfl, ?_⟩) hHeld ?_ ?_
  rotate_left
  ·intro w' hw'
   have cb0_ : w'.cell? ⟨g, 0, none⟩ = some (.int .i64 s0_0) := IsS42.cell_0 hw'.st
   go_simp
   with_reducible rfl
  rotate_left
  ·simp only [Act.put, List.setIfInBounds_toArray, List.set_cons_zero, List.set_cons_succ, i64_w, i32_w]
   rfl
  refine pure_ (i := 5) (N := some 57) (v := ?_) (a' := ?_) #[true, true, true, true, true, true, false, false, false, false, false, false, false, false, false, false, false, false, false, false, false, false] rfl rfl (by kernel_rfl) (fun _ _ _ h => h) (Or.inl ⟨by rfl, ?_⟩) ?_ ?_
  rotate_left
  ·intro w'
   go_simp
   with_reducible rfl
  rotate_left
  ·simp only [Act.put, List.setIfInBounds_toArray, List.set_cons_zero, List.set_cons_succ, i64_w, i32_w]
   rfl
  refine take_ (i := 6) (N := some 58) (v := ?_) (a' := ?_) #[true, true, true, true, true, true, true, false, false, false, false, false, false, false, false, false, false, false, false, false, false, false] rfl rfl (by kernel_rfl) (fun _ _ _ h => h) (Or.inl ⟨by rfl, ?_⟩) hHeld ?_ ?_
  rotate_left
  ·intro w' hw'
   have cb0_ : w'.cell? ⟨b, 1, none⟩ = some (.int .i64 105) := (blk_cell hw'.row 1).trans rfl
   go_simp
   with_reducible rfl
  rotate_left
  ·simp only [Act.put, List.setIfInBounds_toArray, List.set_cons_zero, List.set_cons_succ, i64_w, i32_w]
   rfl
  refine pure_ (i := 7) (N := some 59) (v := ?_) (a' := ?_) #[true, true, true, true, true, true, true, true, false, false, false, false, false, false, false, false, false, false, false, false, false, false] rfl rfl (by kernel_rfl) (fun _ _ _ h => h) (Or.inl ⟨by rfl, ?_⟩) ?_ ?_
  rotate_left
  ·intro w'
   go_simp
   with_reducible rfl
  rotate_left
  ·simp only [Act.put, List.setIfInBounds_toArray, List.set_cons_zero, List.set_cons_succ, i64_w, i32_w]
   rfl
  refine take_ (i := 8) (N := some 60) (v := ?_) (a' := ?_) #[true, true, true, true, true, true, true, true, true, false, false, false, false, false, false, false, false, false, false, false, false, false] rfl rfl (by kernel_rfl) (fun _ _ _ h => h) (Or.inl ⟨by rfl, ?_⟩) hHeld ?_ ?_
  rotate_left
  ·intro w' hw'
   have cb0_ : w'.cell? ⟨b, 4, none⟩ = some (.int .i64 0) := (blk_cell hw'.row 4).trans rfl
   go_simp
   with_reducible rfl
  rotate_left
  ·simp only [Act.put, List.setIfInBounds_toArray, List.set_cons_zero, List.set_cons_succ, i64_w, i32_w]
   rfl
  refine pure_ (i := 9) (N := some 61) (v := ?_) (a' := ?_) #[true, true, true, true, true, true, true, true, true, true, false, false, false, false, false, false, false, false, false, false, false, false] rfl rfl (by kernel_rfl) (fun _ _ _ h => h) (Or.inl ⟨by rfl, ?_⟩) ?_ ?_
  rotate_left
  ·intro w'
   go_simp
   with_reducible rfl
  rotate_left
  ·simp only [Act.put, List.setIfInBounds_toArray, List.set_cons_zero, List.set_cons_succ, i64_w, i32_w]
   rfl
  refine pure_ (i := 10) (N := some 62) (v := ?_) (a' := ?_) #[true, true, true, true, true, true, true, true, true, true, true, false, false, false, false, false, false, false, false, false, false, false] rfl rfl (by kernel_rfl) (fun _ _ _ h => h) (Or.inl ⟨by rfl, ?_⟩) ?_ ?_
  rotate_left
  ·intro w'
   go_simp
   with_reducible rfl
  rotate_left
  ·simp only [Act.put, List.setIfInBounds_toArray, List.set_cons_zero, List.set_cons_succ, i64_w, i32_w]
   rfl
  refine pure_ (i := 11) (N := some 63) (v := ?_) (a' := ?_) #[true, true, true, true, true, true, true, true, true, true, true, true, false, false, false, false, false, false, false, false, false, false] rfl rfl (by kernel_rfl) (fun _ _ _ h => h) (Or.inl ⟨by rfl, ?_⟩) ?_ ?_
  rotate_left
  ·intro w'
   go_simp
   with_reducible rfl
  rotate_left
  ·simp only [Act.put, List.setIfInBounds_toArray, List.set_cons_zero, List.set_cons_succ, i64_w, i32_w]
   rfl
  refine pure_ (i := 12) (N := some 64) (v := ?_) (a' := ?_) #[true, true, true, true, true, true, true, true, true, true, true, true, true, false, false, false, false, false, false, false, false, false] rfl rfl (by kernel_rfl) (fun _ _ _ h => h) (Or.inl ⟨by rfl, ?_⟩) ?_ ?_
  rotate_left
  ·intro w'
   go_simp
   with_reducible rfl
  rotate_left
  ·simp only [Act.put, List.setIfInBounds_toArray, List.set_cons_zero, List.set_cons_succ, i64_w, i32_w]
   rfl
  refine take_ (i := 13) (N := some 65) (v := ?_) (a' := ?_) #[true, true, true, true, true, true, true, true, true, true, true, true, true, true, false, false, false, false, false, false, false, false] rfl rfl (by kernel_rfl) (fun _ _ _ h => h) (Or.inl ⟨by rfl, ?_⟩) hHeld ?_ ?_
  rotate_left
  ·intro w' hw'
   have cb0_ : w'.cell? ⟨b, 2, none⟩ = some (.int .i64 100) := (blk_cell hw'.row 2).trans rfl
   go_simp
   with_reducible rfl
  rotate_left
  ·simp only [Act.put, List.setIfInBounds_toArray, List.set_cons_zero, List.set_cons_succ, i64_w, i32_w]
   rfl
  refine pure_ (i := 14) (N := some 66) (v := ?_) (a' := ?_) #[true, true, true, true, true, true, true, true, true, true, true, true, true, true, true, false, false, false, false, false, false, false] rfl rfl (by kernel_rfl) (fun _ _ _ h => h) (Or.inl ⟨by rfl, ?_⟩) ?_ ?_
  rotate_left
  ·intro w'
   go_simp
   with_reducible rfl
  rotate_left
  ·simp only [Act.put, List.setIfInBounds_toArray, List.set_cons_zero, List.set_cons_succ, i64_w, i32_w]
   rfl
  refine pure_ (i := 16) (N := some 68) (v := ?_) (a' := ?_) #[true, true, true, true, true, true, true, true, true, true, true, true, true, true, true, false, true, false, false, false, false, false] rfl rfl (by kernel_rfl) (fun _ _ _ h => h) (Or.inl ⟨by rfl, ?_⟩) ?_ ?_
  rotate_left
  ·intro w'
   go_simp
   with_reducible rfl
  rotate_left
  ·simp only [Act.put, List.setIfInBounds_toArray, List.set_cons_zero, List.set_cons_succ, i64_w, i32_w]
   rfl
  refine take_ (i := 17) (N := some 69) (v := ?_) (a' := ?_) #[true, true, true, true, true, true, true, true, true, true, true, true, true, true, true, false, true, true, false, false, false, false] rfl rfl (by kernel_rfl) (fun _ _ _ h => h) (Or.inl ⟨by rfl, ?_⟩) hHeld ?_ ?_
  rotate_left
  ·intro w' hw'
   have cb0_ : w'.cell? ⟨b, 3, none⟩ = some (.int .i64 1000) := (blk_cell hw'.row 3).trans rfl
   go_simp
   with_reducible rfl
  rotate_left
  ·simp only [Act.put, List.setIfInBounds_toArray, List.set_cons_zero, List.set_cons_succ, i64_w, i32_w]
   rfl
  refine one_ (i := 15) (N := some 67) #[true, true, true, true, true, true, true, true, true, true, true, true, true, true, true, true, true, true, false, false, false, false] rfl rfl (by kernel_rfl) (by decide) (fun K hK => ?_)
  refine goes_ Tryd.func16 (by kernel_rfl) rfl #[.int .i64 s0_0, .int .i64 (wrap64 (105 - wrap64 0)), .int .i64 100, .int .i64 3] (by rfl) rfl rfl (by simp only [List.map_toArray, List.map_cons, List.map_nil]; rfl) ?_
  refine (muldiv_Do.calls s0_0 _ 100 3 q _ Aq).mono ?_
  rintro e w' ⟨rfl, hb⟩
  refine ⟨_, rfl, ?_⟩
  have hN_ := hHeld.below hb
  refine hK.out _ _ hN_ (fun hHeld => ?_)
  clear hK K hN_ hb
  refine norm_ (a' := ?_) ?_ ?_
  rotate_left
  ·show Act.put _ (some 67) _ = _
   simp only [Act.put, List.setIfInBounds_toArray, List.set_cons_zero, List.set_cons_succ, i64_w, i32_w]
   rfl
  refine pure_ (i := 18) (N := some 70) (v := ?_) (a' := ?_) #[true, true, true, true, true, true, true, true, true, true, true, true, true, true, true, true, true, true, true, false, false, false] rfl rfl (by kernel_rfl) (fun _ _ _ h => h) (Or.inl ⟨by rfl, ?_⟩) ?_ ?_
  rotate_left
  ·intro w'
   go_simp
   with_reducible rfl
  rotate_left
  ·simp only [Act.put, List.setIfInBounds_toArray, List.set_cons_zero, List.set_cons_succ, i64_w, i32_w]
   rfl
  refine pure_ (i := 19) (N := some 71) (v := ?_) (a' := ?_) #[true, true, true, true, true, true, true, true, true, true, true, true, true, true, true, true, true, true, true, true, false, false] rfl rfl (by kernel_rfl) (fun _ _ _ h => h) (Or.inl ⟨by rfl, ?_⟩) ?_ ?_
  rotate_left
  ·intro w'
   go_simp
   with_reducible rfl
  rotate_left
  ·simp only [Act.put, List.setIfInBounds_toArray, List.set_cons_zero, List.set_cons_succ, i64_w, i32_w]
   rfl
  refine pure_ (i := 20) (N := some 72) (v := ?_) (a' := ?_) #[true, true, true, true, true, true, true, true, true, true, true, true, true, true, true, true, true, true, true, true, true, false] rfl rfl (by kernel_rfl) (fun _ _ _ h => h) (Or.inl ⟨by rfl, ?_⟩) ?_ ?_
  rotate_left
  ·intro w'
   go_simp
   with_reducible rfl
  rotate_left
  ·simp only [Act.put, List.setIfInBounds_toArray, List.set_cons_zero, List.set_cons_succ, i64_w, i32_w]
   rfl
  refine last_ (i := 21) (N := none) #[true, true, true, true, true, true, true, true, true, true, true, true, true, true, true, true, true, true, true, true, true, true] rfl rfl (by kernel_rfl) (by decide) (fun K hK => ?_)
  have hs0_ : w'.cell? ⟨g, 0, none⟩ = some (.int .i64 s0_0) := IsS42.cell_0 hHeld.st
  have hf0_ := IsS42.froz_0 hHeld.st
  refine skip_ (w1 := ?_) (by rfl) rfl ?_ ?_
  rotate_left
  ·go_simp
   rfl
  refine hK.out _ _ ?_
  refine done_ (by kernel_rfl) ?_
  clear hK K
  clear hs0_
  clear hf0_
  have h2 : IsS42 w0 (w'.setCell ⟨g, 0, none⟩ (.int .i64 (wrap64 (q + 1000)))) g (wrap64 (q + 1000)) s0_1 s0_2 true t := IsS42.set_0 hHeld.st _
  have hb2 := below_set hHeld.bel (IsS42.ge hHeld.st) (j := 0) (v := .int .i64 (wrap64 (q + 1000)))
  have hk2 := KeepBut.set_ hHeld.keep 0 (.int .i64 (wrap64 (q + 1000)))
  clear hHeld
  generalize w'.setCell ⟨g, 0, none⟩ (.int .i64 (wrap64 (q + 1000))) = W5 at h2 hb2 hk2 ⊢
  try go_wp2
  have h3 : LK w0 w W5 g (wrap64 (q + 1000)) s0_1 s0_2 true t := ⟨h2, hb2, hk2⟩
  clear h2 hb2 hk2
  refine start_ (n := 17) (S := fun w' => LK w0 w w' g (wrap64 (q + 1000)) s0_1 s0_2 true t) (ds := [16]) #[false, false, false, false, false, false, false, false, false, false, false, false, false, false, false, false, false] (by kernel_rfl) rfl rfl h3.drew (fun hHeld => ?_)
  clear h3
  generalize W5.drew = W5 at hHeld ⊢
  refine pure_ (i := 0) (N := some 74) (v := ?_) (a' := ?_) #[true, false, false, false, false, false, false, false, false, false, false, false, false, false, false, false, false] rfl rfl (by kernel_rfl) (fun _ _ _ h => h) (Or.inl ⟨by rfl, ?_⟩) ?_ ?_
  rotate_left
  ·intro w'
   go_simp
   with_reducible rfl
  rotate_left
  ·simp only [Act.put, List.setIfInBounds_toArray, List.set_cons_zero, List.set_cons_succ, i64_w, i32_w]
   rfl
  refine pure_ (i := 1) (N := some 75) (v := ?_) (a' := ?_) #[true, true, false, false, false, false, false, false, false, false, false, false, false, false, false, false, false] rfl rfl (by kernel_rfl) (fun _ _ _ h => h) (Or.inl ⟨by rfl, ?_⟩) ?_ ?_
  rotate_left
  ·intro w'
   go_simp
   with_reducible rfl
  rotate_left
  ·simp only [Act.put, List.setIfInBounds_toArray, List.set_cons_zero, List.set_cons_succ, i64_w, i32_w]
   rfl
  refine pure_ (i := 2) (N := some 76) (v := ?_) (a' := ?_) #[true, true, true, false, false, false, false, false, false, false, false, false, false, false, false, false, false] rfl rfl (by kernel_rfl) (fun _ _ _ h => h) (Or.inl ⟨by rfl, ?_⟩) ?_ ?_
  rotate_left
  ·intro w'
   go_simp
   with_reducible rfl
  rotate_left
  ·simp only [Act.put, List.setIfInBounds_toArray, List.set_cons_zero, List.set_cons_succ, i64_w, i32_w]
   rfl
  refine pure_ (i := 3) (N := some 77) (v := ?_) (a' := ?_) #[true, true, true, true, false, false, false, false, false, false, false, false, false, false, false, false, false] rfl rfl (by kernel_rfl) (fun _ _ _ h => h) (Or.inl ⟨by rfl, ?_⟩) ?_ ?_
  rotate_left
  ·intro w'
   go_simp
   with_reducible rfl
  rotate_left
  ·simp only [Act.put, List.setIfInBounds_toArray, List.set_cons_zero, List.set_cons_succ, i64_w, i32_w]
   rfl
  refine take_ (i := 4) (N := some 78) (v := ?_) (a' := ?_) #[true, true, true, true, true, false, false, false, false, false, false, false, false, false, false, false, false] rfl rfl (by kernel_rfl) (fun _ _ _ h => h) (Or.inl ⟨by rfl, ?_⟩) hHeld ?_ ?_
  rotate_left
  ·intro w' hw'
   have cb0_ : w'.cell? ⟨g, 0, none⟩ = some (.int .i64 (wrap64 (q + 1000))) := IsS42.cell_0 hw'.st
   go_simp
   with_reducible rfl
  rotate_left
  ·simp only [Act.put, List.setIfInBounds_toArray, List.set_cons_zero, List.set_cons_succ, i64_w, i32_w]
   rfl
  refine pure_ (i := 5) (N := some 79) (v := ?_) (a' := ?_) #[true, true, true, true, true, true, false, false, false, false, false, false, false, false, false, false, false] rfl rfl (by kernel_rfl) (fun _ _ _ h => h) (Or.inl ⟨by rfl, ?_⟩) ?_ ?_
  rotate_left
  ·intro w'
   go_simp
   with_reducible rfl
  rotate_left
  ·simp only [Act.put, List.setIfInBounds_toArray, List.set_cons_zero, List.set_cons_succ, i64_w, i32_w]
   rfl
  refine pure_ (i := 6) (N := some 80) (v := ?_) (a' := ?_) #[true, true, true, true, true, true, true, false, false, false, false, false, false, false, false, false, false] rfl rfl (by kernel_rfl) (fun _ _ _ h => h) (Or.inl ⟨by rfl, ?_⟩) ?_ ?_
  rotate_left
  ·intro w'
   go_simp
   with_reducible rfl
  rotate_left
  ·simp only [Act.put, List.setIfInBounds_toArray, List.set_cons_zero, List.set_cons_succ, i64_w, i32_w]
   rfl
  refine pure_ (i := 7) (N := some 81) (v := ?_) (a' := ?_) #[true, true, true, true, true, true, true, true, false, false, false, false, false, false, false, false, false] rfl rfl (by kernel_rfl) (fun _ _ _ h => h) (Or.inl ⟨by rfl, ?_⟩) ?_ ?_
  rotate_left
  ·intro w'
   go_simp
   with_reducible rfl
  rotate_left
  ·simp only [Act.put, List.setIfInBounds_toArray, List.set_cons_zero, List.set_cons_succ, i64_w, i32_w]
   rfl
  refine take_ (i := 8) (N := some 82) (v := ?_) (a' := ?_) #[true, true, true, true, true, true, true, true, true, false, false, false, false, false, false, false, false] rfl rfl (by kernel_rfl) (fun _ _ _ h => h) (Or.inl ⟨by rfl, ?_⟩) hHeld ?_ ?_
  rotate_left
  ·intro w' hw'
   have cb0_ : w'.cell? ⟨g, 1, none⟩ = some (.int .i64 s0_1) := IsS42.cell_1 hw'.st
   go_simp
   with_reducible rfl
  rotate_left
  ·simp only [Act.put, List.setIfInBounds_toArray, List.set_cons_zero, List.set_cons_succ, i64_w, i32_w]
   rfl
  refine pure_ (i := 9) (N := some 83) (v := ?_) (a' := ?_) #[true, true, true, true, true, true, true, true, true, true, false, false, false, false, false, false, false] rfl rfl (by kernel_rfl) (fun _ _ _ h => h) (Or.inl ⟨by rfl, ?_⟩) ?_ ?_
  rotate_left
  ·intro w'
   go_simp
   with_reducible rfl
  rotate_left
  ·simp only [Act.put, List.setIfInBounds_toArray, List.set_cons_zero, List.set_cons_succ, i64_w, i32_w]
   rfl
  refine pure_ (i := 10) (N := some 84) (v := ?_) (a' := ?_) #[true, true, true, true, true, true, true, true, true, true, true, false, false, false, false, false, false] rfl rfl (by kernel_rfl) (fun _ _ _ h => h) (Or.inl ⟨by rfl, ?_⟩) ?_ ?_
  rotate_left
  ·intro w'
   go_simp
   with_reducible rfl
  rotate_left
  ·simp only [Act.put, List.setIfInBounds_toArray, List.set_cons_zero, List.set_cons_succ, i64_w, i32_w]
   rfl
  refine pure_ (i := 11) (N := some 85) (v := ?_) (a' := ?_) #[true, true, true, true, true, true, true, true, true, true, true, true, false, false, false, false, false] rfl rfl (by kernel_rfl) (fun _ _ _ h => h) (Or.inl ⟨by rfl, ?_⟩) ?_ ?_
  rotate_left
  ·intro w'
   go_simp
   with_reducible rfl
  rotate_left
  ·simp only [Act.put, List.setIfInBounds_toArray, List.set_cons_zero, List.set_cons_succ, i64_w, i32_w]
   rfl
  refine take_ (i := 12) (N := some 86) (v := ?_) (a' := ?_) #[true, true, true, true, true, true, true, true, true, true, true, true, true, false, false, false, false] rfl rfl (by kernel_rfl) (fun _ _ _ h => h) (Or.inl ⟨by rfl, ?_⟩) hHeld ?_ ?_
  rotate_left
  ·intro w' hw'
   have cb0_ : w'.cell? ⟨g, 2, none⟩ = some (.int .i64 s0_2) := IsS42.cell_2 hw'.st
   go_simp
   with_reducible rfl
  rotate_left
  ·simp only [Act.put, List.setIfInBounds_toArray, List.set_cons_zero, List.set_cons_succ, i64_w, i32_w]
   rfl
  refine one_ (i := 13) (N := some 87) #[true, true, true, true, true, true, true, true, true, true, true, true, true, true, false, false, false] rfl rfl (by kernel_rfl) (by decide) (fun K hK => ?_)
  refine goes_ Tryd.func15 (by kernel_rfl) rfl #[.int .i64 (wrap64 (q + 1000)), .int .i64 s0_1, .int .i64 s0_2] (by rfl) rfl rfl (by simp only [List.map_toArray, List.map_cons, List.map_nil]; rfl) ?_
  with_reducible refine (sat_Clamp.calls (wrap64 (q + 1000)) s0_1 s0_2 t3 _ A3).mono ?_
  rintro e w' ⟨rfl, ⟨nd, rfl⟩⟩
  refine ⟨_, rfl, ?_⟩
  have hN_ := hHeld.drewN nd
  refine hK.out _ _ hN_ (fun hHeld => ?_)
  clear hK K hN_
  generalize W5.drewN nd = W5_ at hHeld ⊢
  refine norm_ (a' := ?_) ?_ ?_
  rotate_left
  ·show Act.put _ (some 87) _ = _
   simp only [Act.put, List.setIfInBounds_toArray, List.set_cons_zero, List.set_cons_succ, i64_w, i32_w]
   rfl
  refine pure_ (i := 14) (N := some 88) (v := ?_) (a' := ?_) #[true, true, true, true, true, true, true, true, true, true, true, true, true, true, true, false, false] rfl rfl (by kernel_rfl) (fun _ _ _ h => h) (Or.inl ⟨by rfl, ?_⟩) ?_ ?_
  rotate_left
  ·intro w'
   go_simp
   with_reducible rfl
  rotate_left
  ·simp only [Act.put, List.setIfInBounds_toArray, List.set_cons_zero, List.set_cons_succ, i64_w, i32_w]
   rfl
  refine pure_ (i := 15) (N := some 89) (v := ?_) (a' := ?_) #[true, true, true, true, true, true, true, true, true, true, true, true, true, true, true, true, false] rfl rfl (by kernel_rfl) (fun _ _ _ h => h) (Or.inl ⟨by rfl, ?_⟩) ?_ ?_
  rotate_left
  ·intro w'
   go_simp
   with_reducible rfl
  rotate_left
  ·simp only [Act.put, List.setIfInBounds_toArray, List.set_cons_zero, List.set_cons_succ, i64_w, i32_w]
   rfl
  refine last_ (i := 16) (N := none) #[true, true, true, true, true, true, true, true, true, true, true, true, true, true, true, true, true] rfl rfl (by kernel_rfl) (by decide) (fun K hK => ?_)
  have hs0_ : W5_.cell? ⟨g, 0, none⟩ = some (.int .i64 (wrap64 (q + 1000))) := IsS42.cell_0 hHeld.st
  have hf0_ := IsS42.froz_0 hHeld.st
  refine skip_ (w1 := ?_) (by rfl) rfl ?_ ?_
  rotate_left
  ·go_simp
   rfl
  refine hK.out _ _ ?_
  refine done_ (by kernel_rfl) ?_
  clear hK K
  clear hs0_
  clear hf0_
  have h4 := IsS42.set_0 hHeld.st t3
  have hb4 := below_set hHeld.bel (IsS42.ge hHeld.st) (j := 0) (v := .int .i64 t3)
  have hk4 := KeepBut.set_ hHeld.keep 0 (.int .i64 t3)
  clear hHeld
  generalize W5_.setCell ⟨g, 0, none⟩ (.int .i64 t3) = W6 at h4 hb4 hk4 ⊢
  have hc0_ := IsS42.cell_0 h4
  go_wp2
  go_ret
  exact ⟨rfl, h4, hb4, hk4⟩
set_option maxHeartbeats 8000000 in
set_option maxRecDepth 100000 in
theorem lossy_upd1 (g : Nat) (s0_0 s0_1 s0_2 : Int) (s0_3 : Bool) (s0_4 a1 a2 n t : Int) (w0 w : World) (hI : IsS42 w0 w g s0_0 s0_1 s0_2 s0_3 s0_4) (hB : Below w0.heap.size w0 w) (hG : GL w0) (q : Int) (Aq : muldiv_Do.f s0_0 (wrap64 (1 - wrap64 0)) 1 1 = some q) (t3 : Int) (A3 : sat_Clamp.f (wrap64 q) s0_1 s0_2 = some t3) (At : sat_Clamp.f a2 0 1125899906842624 = some t) (An : sat_Clamp.f a1 0 256 = some n) (cn : ¬ n ≤ 5) (cn2 : n ≤ 26) (hn : n ≤ 256) (c : s0_3 = false ∨ s0_3 = true ∧ decide (wrap64 (t - s0_4) < 200000) = false) :
  Calls Tryd.prog 9 #[.pointer (some ⟨g, 0, none⟩), .int .i64 a1, .int .i64 a2] w fun e w' => e = .returned (.int .i64 t3) ∧ IsS42 w0 w' g t3 s0_1 s0_2 true t ∧ Below w0.heap.size w0 w' ∧ KeepBut w w' g none := by
 have hpn : ∀ (a_ : Addr) (W_ : World), (Go.binOp .eql 24 (.pointer (some a_)) (.pointer none)).run Tryd.prog W_ = .ok (.bool false) W_ := fun _ _ => by kernel_rfl
 have hix0 : ∀ W_ : World, (Instr.index 46 (.agg #[.int .i64 5, .int .i64 105, .int .i64 100, .int .i64 1000, .int .i64 0, .int .i64 26, .int .i64 1, .int .i64 1, .int .i64 0, .int .i64 0, .int .i64 256, .int .i64 512, .int .i64 512, .int .i64 0, .int .i64 1]) (.int .i64 0)).run Tryd.prog W_ = .ok (.agg #[.int .i64 5, .int .i64 105, .int .i64 100, .int .i64 1000, .int .i64 0]) W_ := fun _ => by kernel_rfl
 have hix1 : ∀ W_ : World, (Instr.index 46 (.agg #[.int .i64 5, .int .i64 105, .int .i64 100, .int .i64 1000, .int .i64 0, .int .i64 26, .int .i64 1, .int .i64 1, .int .i64 0, .int .i64 0, .int .i64 256, .int .i64 512, .int .i64 512, .int .i64 0, .int .i64 1]) (.int .i64 1)).run Tryd.prog W_ = .ok (.agg #[.int .i64 26, .int .i64 1, .int .i64 1, .int .i64 0, .int .i64 0]) W_ := fun _ => by kernel_rfl
 have hix2 : ∀ W_ : World, (Instr.index 46 (.agg #[.int .i64 5, .int .i64 105, .int .i64 100, .int .i64 1000, .int .i64 0, .int .i64 26, .int .i64 1, .int .i64 1, .int .i64 0, .int .i64 0, .int .i64 256, .int .i64 512, .int .i64 512, .int .i64 0, .int .i64 1]) (.int .i64 2)).run Tryd.prog W_ = .ok (.agg #[.int .i64 256, .int .i64 512, .int .i64 512, .int .i64 0, .int .i64 1]) W_ := fun _ => by kernel_rfl
 have cn0_ : decide (5 < n) = true := decide_eq_true (by omega)
 have cn1_ : decide (26 < n) = false := decide_eq_false (by omega)
 rcases c with c | ⟨c, hc⟩
 ·subst c
  go_enter Tryd.func9, Tryd.ntmps9
  go_wp2_with (first | ((with_reducible refine gate_dst (N := 14) rfl ?_); refine goesL_ (some 14) rfl rfl Tryd.func15 (by kernel_rfl) rfl #[.int .i64 a2, .int .i64 0, .int .i64 1125899906842624] rfl (by (try simp only [List.map_toArray, List.map_cons, List.map_nil]); first | done | rfl) ?_; (with_reducible refine (sat_Clamp.calls a2 0 1125899906842624 t _ At).mono ?_); rintro e w' ⟨rfl, ⟨nd, rfl⟩⟩; refine ⟨_, rfl, ?_⟩; have hI1 := IsS42.drewN hI nd; have hB1 := pw_below_drewN hB nd; have hK1 := keep_drewN (KeepBut.refl w g none) nd; generalize World.drewN w nd = W1 at hI1 hB1 hK1 ⊢; have hc0_ : W1.cell? ⟨g, 0, none⟩ = some (.int .i64 s0_0) := IsS42.cell_0 hI1; have hf0_ := IsS42.froz_0 hI1; have hc1_ : W1.cell? ⟨g, 1, none⟩ = some (.int .i64 s0_1) := IsS42.cell_1 hI1; have hf1_ := IsS42.froz_1 hI1; have hc2_ : W1.cell? ⟨g, 2, none⟩ = some (.int .i64 s0_2) := IsS42.cell_2 hI1; have hf2_ := IsS42.froz_2 hI1; have hc3_ : W1.cell? ⟨g, 3, none⟩ = some (.bool false) := IsS42.cell_3 hI1; have hf3_ := IsS42.froz_3 hI1; have hc4_ : W1.cell? ⟨g, 4, none⟩ = some (.int .i64 s0_4) := IsS42.cell_4 hI1; have hf4_ := IsS42.froz_4 hI1) | ((with_reducible refine gate_dst (N := 40) rfl ?_); refine goesL_ (some 40) rfl rfl Tryd.func15 (by kernel_rfl) rfl #[.int .i64 a1, .int .i64 0, .int .i64 256] rfl (by (try simp only [List.map_toArray, List.map_cons, List.map_nil]); first | done | rfl) ?_; (with_reducible refine (sat_Clamp.calls a1 0 256 n _ An).mono ?_); rintro e w' ⟨rfl, ⟨nd, rfl⟩⟩; refine ⟨_, rfl, ?_⟩; have hI2 := IsS42.drewN (IsS42.set_4 (IsS42.set_3 hI1 true) t) nd; have hB2 := pw_below_drewN (below_set (below_set hB1 (IsS42.ge hI1) (j := 3) (v := .bool true)) (IsS42.ge hI1) (j := 4) (v := .int .i64 t)) nd; have hK2 := keep_drewN (KeepBut.set_ (KeepBut.set_ hK1 3 (.bool true)) 4 (.int .i64 t)) nd; clear hI1 hB1 hK1; clear hc0_ hf0_ hc1_ hf1_ hc2_ hf2_ hc3_ hf3_ hc4_ hf4_; generalize World.drewN ((W1.setCell ⟨g, 3, none⟩ (.bool true)).setCell ⟨g, 4, none⟩ (.int .i64 t)) nd = W2 at hI2 hB2 hK2 ⊢; have hc0_ : W2.cell? ⟨g, 0, none⟩ = some (.int .i64 s0_0) := IsS42.cell_0 hI2; have hf0_ := IsS42.froz_0 hI2; have hc1_ : W2.cell? ⟨g, 1, none⟩ = some (.int .i64 s0_1) := IsS42.cell_1 hI2; have hf1_ := IsS42.froz_1 hI2; have hc2_ : W2.cell? ⟨g, 2, none⟩ = some (.int .i64 s0_2) := IsS42.cell_2 hI2; have hf2_ := IsS42.froz_2 hI2; have hc3_ : W2.cell? ⟨g, 3, none⟩ = some (.bool true) := IsS42.cell_3 hI2; have hf3_ := IsS42.froz_3 hI2; have hc4_ : W2.cell? ⟨g, 4, none⟩ = some (.int .i64 t) := IsS42.cell_4 hI2; have hf4_ := IsS42.froz_4 hI2; have hG2 := hG.below hB2; obtain ⟨q0, q1, q2, q3, q4, q5, q6, q7, q8, q9, q10, q11, q12, q13, q14⟩ := hG2))
  refine wp_loop_rounds 4 ?_
  rw [rounds_succ]
  go_wp2
  rw [rounds_succ]
  go_wp2
  refine namedG_ ?_
  intro W3 hW3
  have h1 : LH w0 w W3 g (W2.alloc (.cells #[.int .i64 5, .int .i64 105, .int .i64 100, .int .i64 1000, .int .i64 0] 45)).heap.size s0_0 s0_1 s0_2 true t 26 1 1 0 0 := by rw [hW3]; exact ⟨IsS42.alloc (IsS42.alloc (hI2) _) _, below_alloc (below_alloc (hB2) _) _, keep_alloc (keep_alloc (hK2) _) _, blk_new _ _⟩
  (try simp only [sizeG_] at h1 ⊢)
  clear hW3 hI2 hB2 hK2
  generalize W2.heap.size + 1 = b at h1 ⊢
  refine start_ (n := 22) (S := fun w' => LH w0 w w' g b s0_0 s0_1 s0_2 true t 26 1 1 0 0) (ds := [21]) #[false, false, false, false, false, false, false, false, false, false, false, false, false, false, false, false, false, false, false, false, false, false] (by kernel_rfl) rfl rfl h1.drew (fun hHeld => ?_)
  clear h1
  generalize W3.drew = W3 at hHeld ⊢
  refine pure_ (i := 0) (N := some 52) (v := ?_) (a' := ?_) #[true, false, false, false, false, false, false, false, false, false, false, false, false, false, false, false, false, false, false, false, false, false] rfl rfl (by kernel_rfl) (fun _ _ _ h => h) (Or.inl ⟨by rfl, ?_⟩) ?_ ?_
  rotate_left
  ·intro w'
   go_simp
   with_reducible rfl
  rotate_left
  ·simp only [Act.put, List.setIfInBounds_toArray, List.set_cons_zero, List.set_cons_succ, i64_w, i32_w]
   rfl
  refine pure_ (i := 1) (N := some 53) (v := ?_) (a' := ?_) #[true, true, false, false, false, false, false, false, false, false, false, false, false, false, false, false, false, false, false, false, false, false] rfl rfl (by kernel_rfl) (fun _ _ _ h => h) (Or.inl ⟨by rfl, ?_⟩) ?_ ?_
  rotate_left
  ·intro w'
   go_simp
   with_reducible rfl
  rotate_left
  ·simp only [Act.put, List.setIfInBounds_toArray, List.set_cons_zero, List.set_cons_succ, i64_w, i32_w]
   rfl
  refine pure_ (i := 2) (N := some 54) (v := ?_) (a' := ?_) #[true, true, true, false, false, false, false, false, false, false, false, false, false, false, false, false, false, false, false, false, false, false] rfl rfl (by kernel_rfl) (fun _ _ _ h => h) (Or.inl ⟨by rfl, ?_⟩) ?_ ?_
  rotate_left
  ·intro w'
   go_simp
   with_reducible rfl
  rotate_left
  ·simp only [Act.put, List.setIfInBounds_toArray, List.set_cons_zero, List.set_cons_succ, i64_w, i32_w]
   rfl
  refine pure_ (i := 3) (N := some 55) (v := ?_) (a' := ?_) #[true, true, true, true, false, false, false, false, false, false, false, false, false, false, false, false, false, false, false, false, false, false] rfl rfl (by kernel_rfl) (fun _ _ _ h => h) (Or.inl ⟨by rfl, ?_⟩) ?_ ?_
  rotate_left
  ·intro w'
   go_simp
   with_reducible rfl
  rotate_left
  ·simp only [Act.put, List.setIfInBounds_toArray, List.set_cons_zero, List.set_cons_succ, i64_w, i32_w]
   rfl
  refine take_ (i := 4) (N := some 56) (v := ?_) (a' := ?_) #[true, true, true, true, true, false, false, false, false, false, false, false, false, false, false, false, false, false, false, false, false, false] rfl rfl (by kernel_rfl) (fun _ _ _ h => h) (Or.inl ⟨by rfl, ?_⟩) hHeld ?_ ?_
  rotate_left
  ·intro w' hw'
   have cb0_ : w'.cell? ⟨g, 0, none⟩ = some (.int .i64 s0_0) := IsS42.cell_0 hw'.st
   go_simp
   with_reducible rfl
  rotate_left
  ·simp only [Act.put, List.setIfInBounds_toArray, List.set_cons_zero, List.set_cons_succ, i64_w, i32_w]
   rfl
  refine pure_ (i := 5) (N := some 57) (v := ?_) (a' := ?_) #[true, true, true, true, true, true, false, false, false, false, false, false, false, false, false, false, false, false, false, false, false, false] rfl rfl (by kernel_rfl) (fun _ _ _ h => h) (Or.inl ⟨by rfl, ?_⟩) ?_ ?_
  rotate_left
  ·intro w'
   go_simp
   with_reducible rfl
  rotate_left
  ·simp only [Act.put, List.setIfInBounds_toArray, List.set_cons_zero, List.set_cons_succ, i64_w, i32_w]
   rfl
  refine take_ (i := 6) (N := some 58) (v := ?_) (a' := ?_) #[true, true, true, true, true, true, true, false, false, false, false, false, false, false, false, false, false, false, false, false, false, false] rfl rfl (by kernel_rfl) (fun _ _ _ h => h) (Or.inl ⟨by rfl, ?_⟩) hHeld ?_ ?_
  rotate_left
  ·intro w' hw'
   have cb0_ : w'.cell? ⟨b, 1, none⟩ = some (.int .i64 1) := (blk_cell hw'.row 1).trans rfl
   go_simp
   with_reducible rfl
  rotate_left
  ·simp only [Act.put, List.setIfInBounds_toArray, List.set_cons_zero, List.set_cons_succ, i64_w, i32_w]
   rfl
  refine pure_ (i := 7) (N := some 59) (v := ?_) (a' := ?_) #[true, true, true, true, true, true, true, true, false, false, false, false, false, false, false, false, false, false, false, false, false, false] rfl rfl (by kernel_rfl) (fun _ _ _ h => h) (Or.inl ⟨by rfl, ?_⟩) ?_ ?_
  rotate_left
  ·intro w'
   go_simp
   with_reducible rfl
  rotate_left
  ·simp only [Act.put, List.setIfInBounds_toArray, List.set_cons_zero, List.set_cons_succ, i64_w, i32_w]
   rfl
  refine take_ (i := 8) (N := some 60) (v := ?_) (a' := ?_) #[true, true, true, true, true, true, true, true, true, false, false, false, false, false, false, false, false, false, false, false, false, false] rfl rfl (by kernel_rfl) (fun _ _ _ h => h) (Or.inl ⟨by rfl, ?_⟩) hHeld ?_ ?_
  rotate_left
  ·intro w' hw'
   have cb0_ : w'.cell? ⟨b, 4, none⟩ = some (.int .i64 0) := (blk_cell hw'.row 4).trans rfl
   go_simp
   with_reducible rfl
  rotate_left
  ·simp only [Act.put, List.setIfInBounds_toArray, List.set_cons_zero, List.set_cons_succ, i64_w, i32_w]
   rfl
  refine pure_ (i := 9) (N := some 61) (v := ?_) (a' := ?_) #[true, true, true, true, true, true, true, true, true, true, false, false, false, false, false, false, false, false, false, false, false, false] rfl rfl (by kernel_rfl) (fun _ _ _ h => h) (Or.inl ⟨by rfl, ?_⟩) ?_ ?_
  rotate_left
  ·intro w'
   go_simp
   with_reducible rfl
  rotate_left
  ·simp only [Act.put, List.setIfInBounds_toArray, List.set_cons_zero, List.set_cons_succ, i64_w, i32_w]
   rfl
  refine pure_ (i := 10) (N := some 62) (v := ?_) (a' := ?_) #[true, true, true, true, true, true, true, true, true, true, true, false, false, false, false, false, false, false, false, false, false, false] rfl rfl (by kernel_rfl) (fun _ _ _ h => h) (Or.inl ⟨by rfl, ?_⟩) ?_ ?_
  rotate_left
  ·intro w'
   go_simp
   with_reducible rfl
  rotate_left
  ·simp only [Act.put, List.setIfInBounds_toArray, List.set_cons_zero, List.set_cons_succ, i64_w, i32_w]
   rfl
  refine pure_ (i := 11) (N := some 63) (v := ?_) (a' := ?_) #[true, true, true, true, true, true, true, true, true, true, true, true, false, false, false, false, false, false, false, false, false, false] rfl rfl (by kernel_rfl) (fun _ _ _ h => h) (Or.inl ⟨by rfl, ?_⟩) ?_ ?_
  rotate_left
  ·intro w'
   go_simp
   with_reducible rfl
  rotate_left
  ·simp only [Act.put, List.setIfInBounds_toArray, List.set_cons_zero, List.set_cons_succ, i64_w, i32_w]
   rfl
  refine pure_ (i := 12) (N := some 64) (v := ?_) (a' := ?_) #[true, true, true, true, true, true, true, true, true, true, true, true, true, false, false, false, false, false, false, false, false, false] rfl rfl (by kernel_rfl) (fun _ _ _ h => h) (Or.inl ⟨by rfl, ?_⟩) ?_ ?_
  rotate_left
  ·intro w'
   go_simp
   with_reducible rfl
  rotate_left
  ·simp only [Act.put, List.setIfInBounds_toArray, List.set_cons_zero, List.set_cons_succ, i64_w, i32_w]
   rfl
  refine take_ (i := 13) (N := some 65) (v := ?_) (a' := ?_) #[true, true, true, true, true, true, true, true, true, true, true, true, true, true, false, false, false, false, false, false, false, false] rfl rfl (by kernel_rfl) (fun _ _ _ h => h) (Or.inl ⟨by rfl, ?_⟩) hHeld ?_ ?_
  rotate_left
  ·intro w' hw'
   have cb0_ : w'.cell? ⟨b, 2, none⟩ = some (.int .i64 1) := (blk_cell hw'.row 2).trans rfl
   go_simp
   with_reducible rfl
  rotate_left
  ·simp only [Act.put, List.setIfInBounds_toArray, List.set_cons_zero, List.set_cons_succ, i64_w, i32_w]
   rfl
  refine pure_ (i := 14) (N := some 66) (v := ?_) (a' := ?_) #[true, true, true, true, true, true, true, true, true, true, true, true, true, true, true, false, false, false, false, false, false, false] rfl rfl (by kernel_rfl) (fun _ _ _ h => h) (Or.inl ⟨by rfl, ?_⟩) ?_ ?_
  rotate_left
  ·intro w'
   go_simp
   with_reducible rfl
  rotate_left
  ·simp only [Act.put, List.setIfInBounds_toArray, List.set_cons_zero, List.set_cons_succ, i64_w, i32_w]
   rfl
  refine pure_ (i := 16) (N := some 68) (v := ?_) (a' := ?_) #[true, true, true, true, true, true, true, true, true, true, true, true, true, true, true, false, true, false, false, false, false, false] rfl rfl (by kernel_rfl) (fun _ _ _ h => h) (Or.inl ⟨by rfl, ?_⟩) ?_ ?_
  rotate_left
  ·intro w'
   go_simp
   with_reducible rfl
  rotate_left
  ·simp only [Act.put, List.setIfInBounds_toArray, List.set_cons_zero, List.set_cons_succ, i64_w, i32_w]
   rfl
  refine take_ (i := 17) (N := some 69) (v := ?_) (a' := ?_) #[true, true, true, true, true, true, true, true, true, true, true, true, true, true, true, false, true, true, false, false, false, false] rfl rfl (by kernel_rfl) (fun _ _ _ h => h) (Or.inl ⟨by rfl, ?_⟩) hHeld ?_ ?_
  rotate_left
  ·intro w' hw'
   have cb0_ : w'.cell? ⟨b, 3, none⟩ = some (.int .i64 0) := (blk_cell hw'.row 3).trans rfl
   go_simp
   with_reducible rfl
  rotate_left
  ·simp only [Act.put, List.setIfInBounds_toArray, List.set_cons_zero, List.set_cons_succ, i64_w, i32_w]
   rfl
  refine one_ (i := 15) (N := some 67) #[true, true, true, true, true, true, true, true, true, true, true, true, true, true, true, true, true, true, false, false, false, false] rfl rfl (by kernel_rfl) (by decide) (fun K hK => ?_)
  refine goes_ Tryd.func16 (by kernel_rfl) rfl #[.int .i64 s0_0, .int .i64 (wrap64 (1 - wrap64 0)), .int .i64 1, .int .i64 1] (by rfl) rfl rfl (by simp only [List.map_toArray, List.map_cons, List.map_nil]; rfl) ?_
  refine (muldiv_Do.calls s0_0 _ 1 1 q _ Aq).mono ?_
  rintro e w' ⟨rfl, hb⟩
  refine ⟨_, rfl, ?_⟩
  have hN_ := hHeld.below hb
  refine hK.out _ _ hN_ (fun hHeld => ?_)
  clear hK K hN_ hb
  refine norm_ (a' := ?_) ?_ ?_
  rotate_left
  ·show Act.put _ (some 67) _ = _
   simp only [Act.put, List.setIfInBounds_toArray, List.set_cons_zero, List.set_cons_succ, i64_w, i32_w]
   rfl
  refine pure_ (i := 18) (N := some 70) (v := ?_) (a' := ?_) #[true, true, true, true, true, true, true, true, true, true, true, true, true, true, true, true, true, true, true, false, false, false] rfl rfl (by kernel_rfl) (fun _ _ _ h => h) (Or.inl ⟨by rfl, ?_⟩) ?_ ?_
  rotate_left
  ·intro w'
   go_simp
   with_reducible rfl
  rotate_left
  ·simp only [Act.put, List.setIfInBounds_toArray, List.set_cons_zero, List.set_cons_succ, i64_w, i32_w]
   rfl
  refine pure_ (i := 19) (N := some 71) (v := ?_) (a' := ?_) #[true, true, true, true, true, true, true, true, true, true, true, true, true, true, true, true, true, true, true, true, false, false] rfl rfl (by kernel_rfl) (fun _ _ _ h => h) (Or.inl ⟨by rfl, ?_⟩) ?_ ?_
  rotate_left
  ·intro w'
   go_simp
   with_reducible rfl
  rotate_left
  ·simp only [Act.put, List.setIfInBounds_toArray, List.set_cons_zero, List.set_cons_succ, i64_w, i32_w]
   rfl
  refine pure_ (i := 20) (N := some 72) (v := ?_) (a' := ?_) #[true, true, true, true, true, true, true, true, true, true, true, true, true, true, true, true, true, true, true, true, true, false] rfl rfl (by kernel_rfl) (fun _ _ _ h => h) (Or.inl ⟨by rfl, ?_⟩) ?_ ?_
  rotate_left
  ·intro w'
   go_simp
   with_reducible rfl
  rotate_left
  ·simp only [Act.put, List.setIfInBounds_toArray, List.set_cons_zero, List.set_cons_succ, i64_w, i32_w]
   rfl
  refine last_ (i := 21) (N := none) #[true, true, true, true, true, true, true, true, true, true, true, true, true, true, true, true, true, true, true, true, true, true] rfl rfl (by kernel_rfl) (by decide) (fun K hK => ?_)
  have hs0_ : w'.cell? ⟨g, 0, none⟩ = some (.int .i64 s0_0) := IsS42.cell_0 hHeld.st
  have hf0_ := IsS42.froz_0 hHeld.st
  refine skip_ (w1 := ?_) (by rfl) rfl ?_ ?_
  rotate_left
  ·go_simp
   rfl
  refine hK.out _ _ ?_
  refine done_ (by kernel_rfl) ?_
  clear hK K
  clear hs0_
  clear hf0_
  have h2 : IsS42 w0 (w'.setCell ⟨g, 0, none⟩ (.int .i64 (wrap64 q))) g (wrap64 q) s0_1 s0_2 true t := IsS42.set_0 hHeld.st _
  have hb2 := below_set hHeld.bel (IsS42.ge hHeld.st) (j := 0) (v := .int .i64 (wrap64 q))
  have hk2 := KeepBut.set_ hHeld.keep 0 (.int .i64 (wrap64 q))
  clear hHeld
  generalize w'.setCell ⟨g, 0, none⟩ (.int .i64 (wrap64 q)) = W5 at h2 hb2 hk2 ⊢
  try go_wp2
  have h3 : LK w0 w W5 g (wrap64 q) s0_1 s0_2 true t := ⟨h2, hb2, hk2⟩
  clear h2 hb2 hk2
  refine start_ (n := 17) (S := fun w' => LK w0 w w' g (wrap64 q) s0_1 s0_2 true t) (ds := [16]) #[false, false, false, false, false, false, false, false, false, false, false, false, false, false, false, false, false] (by kernel_rfl) rfl rfl h3.drew (fun hHeld => ?_)
  clear h3
  generalize W5.drew = W5 at hHeld ⊢
  refine pure_ (i := 0) (N := some 74) (v := ?_) (a' := ?_) #[true, false, false, false, false, false, false, false, false, false, false, false, false, false, false, false, false] rfl rfl (by kernel_rfl) (fun _ _ _ h => h) (Or.inl ⟨by rfl, ?_⟩) ?_ ?_
  rotate_left
  ·intro w'
   go_simp
   with_reducible rfl
  rotate_left
  ·simp only [Act.put, List.setIfInBounds_toArray, List.set_cons_zero, List.set_cons_succ, i64_w, i32_w]
   rfl
  refine pure_ (i := 1) (N := some 75) (v := ?_) (a' := ?_) #[true, true, false, false, false, false, false, false, false, false, false, false, false, false, false, false, false] rfl rfl (by kernel_rfl) (fun _ _ _ h => h) (Or.inl ⟨by rfl, ?_⟩) ?_ ?_
  rotate_left
  ·intro w'
   go_simp
   with_reducible rfl
  rotate_left
  ·simp only [Act.put, List.setIfInBounds_toArray, List.set_cons_zero, List.set_cons_succ, i64_w, i32_w]
   rfl
  refine pure_ (i := 2) (N := some 76) (v := ?_) (a' := ?_) #[true, true, true, false, false, false, false, false, false, false, false, false, false, false, false, false, false] rfl rfl (by kernel_rfl) (fun _ _ _ h => h) (Or.inl ⟨by rfl, ?_⟩) ?_ ?_
  rotate_left
  ·intro w'
   go_simp
   with_reducible rfl
  rotate_left
  ·simp only [Act.put, List.setIfInBounds_toArray, List.set_cons_zero, List.set_cons_succ, i64_w, i32_w]
   rfl
  refine pure_ (i := 3) (N := some 77) (v := ?_) (a' := ?_) #[true, true, true, true, false, false, false, false, false, false, false, false, false, false, false, false, false] rfl rfl (by kernel_rfl) (fun _ _ _ h => h) (Or.inl ⟨by rfl, ?_⟩) ?_ ?_
  rotate_left
  ·intro w'
   go_simp
   with_reducible rfl
  rotate_left
  ·simp only [Act.put, List.setIfInBounds_toArray, List.set_cons_zero, List.set_cons_succ, i64_w, i32_w]
   rfl
  refine take_ (i := 4) (N := some 78) (v := ?_) (a' := ?_) #[true, true, true, true, true, false, false, false, false, false, false, false, false, false, false, false, false] rfl rfl (by kernel_rfl) (fun _ _ _ h => h) (Or.inl ⟨by rfl, ?_⟩) hHeld ?_ ?_
  rotate_left
  ·intro w' hw'
   have cb0_ : w'.cell? ⟨g, 0, none⟩ = some (.int .i64 (wrap64 q)) := IsS42.cell_0 hw'.st
   go_simp
   with_reducible rfl
  rotate_left
  ·simp only [Act.put, List.setIfInBounds_toArray, List.set_cons_zero, List.set_cons_succ, i64_w, i32_w]
   rfl
  refine pure_ (i := 5) (N := some 79) (v := ?_) (a' := ?_) #[true, true, true, true, true, true, false, false, false, false, false, false, false, false, false, false, false] rfl rfl (by kernel_rfl) (fun _ _ _ h => h) (Or.inl ⟨by rfl, ?_⟩) ?_ ?_
  rotate_left
  ·intro w'
   go_simp
   with_reducible rfl
  rotate_left
  ·simp only [Act.put, List.setIfInBounds_toArray, List.set_cons_zero, List.set_cons_succ, i64_w, i32_w]
   rfl
  refine pure_ (i := 6) (N := some 80) (v := ?_) (a' := ?_) #[true, true, true, true, true, true, true, false, false, false, false, false, false, false, false, false, false] rfl rfl (by kernel_rfl) (fun _ _ _ h => h) (Or.inl ⟨by rfl, ?_⟩) ?_ ?_
  rotate_left
  ·intro w'
   go_simp
   with_reducible rfl
  rotate_left
  ·simp only [Act.put, List.setIfInBounds_toArray, List.set_cons_zero, List.set_cons_succ, i64_w, i32_w]
   rfl
  refine pure_ (i := 7) (N := some 81) (v := ?_) (a' := ?_) #[true, true, true, true, true, true, true, true, false, false, false, false, false, false, false, false, false] rfl rfl (by kernel_rfl) (fun _ _ _ h => h) (Or.inl ⟨by rfl, ?_⟩) ?_ ?_
  rotate_left
  ·intro w'
   go_simp
   with_reducible rfl
  rotate_left
  ·simp only [Act.put, List.setIfInBounds_toArray, List.set_cons_zero, List.set_cons_succ, i64_w, i32_w]
   rfl
  refine take_ (i := 8) (N := some 82) (v := ?_) (a' := ?_) #[true, true, true, true, true, true, true, true, true, false, false, false, false, false, false, false, false] rfl rfl (by kernel_rfl) (fun _ _ _ h => h) (Or.inl ⟨by rfl, ?_⟩) hHeld ?_ ?_
  rotate_left
  ·intro w' hw'
   have cb0_ : w'.cell? ⟨g, 1, none⟩ = some (.int .i64 s0_1) := IsS42.cell_1 hw'.st
   go_simp
   with_reducible rfl
  rotate_left
  ·simp only [Act.put, List.setIfInBounds_toArray, List.set_cons_zero, List.set_cons_succ, i64_w, i32_w]
   rfl
  refine pure_ (i := 9) (N := some 83) (v := ?_) (a' := ?_) #[true, true, true, true, true, true, true, true, true, true, false, false, false, false, false, false, false] rfl rfl (by kernel_rfl) (fun _ _ _ h => h) (Or.inl ⟨by rfl, ?_⟩) ?_ ?_
  rotate_left
  ·intro w'
   go_simp
   with_reducible rfl
  rotate_left
  ·simp only [Act.put, List.setIfInBounds_toArray, List.set_cons_zero, List.set_cons_succ, i64_w, i32_w]
   rfl
  refine pure_ (i := 10) (N := some 84) (v := ?_) (a' := ?_) #[true, true, true, true, true, true, true, true, true, true, true, false, false, false, false, false, false] rfl rfl (by kernel_rfl) (fun _ _ _ h => h) (Or.inl ⟨by rfl, ?_⟩) ?_ ?_
  rotate_left
  ·intro w'
   go_simp
   with_reducible rfl
  rotate_left
  ·simp only [Act.put, List.setIfInBounds_toArray, List.set_cons_zero, List.set_cons_succ, i64_w, i32_w]
   rfl
  refine pure_ (i := 11) (N := some 85) (v := ?_) (a' := ?_) #[true, true, true, true, true, true, true, true, true, true, true, true, false, false, false, false, false] rfl rfl (by kernel_rfl) (fun _ _ _ h => h) (Or.inl ⟨by rfl, ?_⟩) ?_ ?_
  rotate_left
  ·intro w'
   go_simp
   with_reducible rfl
  rotate_left
  ·simp only [Act.put, List.setIfInBounds_toArray, List.set_cons_zero, List.set_cons_succ, i64_w, i32_w]
   rfl
  refine take_ (i := 12) (N := some 86) (v := ?_) (a' := ?_) #[true, true, true, true, true, true, true, true, true, true, true, true, true, false, false, false, false] rfl rfl (by kernel_rfl) (fun _ _ _ h => h) (Or.inl ⟨by rfl, ?_⟩) hHeld ?_ ?_
  rotate_left
  ·intro w' hw'
   have cb0_ : w'.cell? ⟨g, 2, none⟩ = some (.int .i64 s0_2) := IsS42.cell_2 hw'.st
   go_simp
   with_reducible rfl
  rotate_left
  ·simp only [Act.put, List.setIfInBounds_toArray, List.set_cons_zero, List.set_cons_succ, i64_w, i32_w]
   rfl
  refine one_ (i := 13) (N := some 87) #[true, true, true, true, true, true, true, true, true, true, true, true, true, true, false, false, false] rfl rfl (by kernel_rfl) (by decide) (fun K hK => ?_)
  refine goes_ Tryd.func15 (by kernel_rfl) rfl #[.int .i64 (wrap64 q), .int .i64 s0_1, .int .i64 s0_2] (by rfl) rfl rfl (by simp only [List.map_toArray, List.map_cons, List.map_nil]; rfl) ?_
  with_reducible refine (sat_Clamp.calls (wrap64 q) s0_1 s0_2 t3 _ A3).mono ?_
  rintro e w' ⟨rfl, ⟨nd, rfl⟩⟩
  refine ⟨_, rfl, ?_⟩
  have hN_ := hHeld.drewN nd
  refine hK.out _ _ hN_ (fun hHeld => ?_)
  clear hK K hN_
  generalize W5.drewN nd = W5_ at hHeld ⊢
  refine norm_ (a' := ?_) ?_ ?_
  rotate_left
  ·show Act.put _ (some 87) _ = _
   simp only [Act.put, List.setIfInBounds_toArray, List.set_cons_zero, List.set_cons_succ, i64_w, i32_w]
   rfl
  refine pure_ (i := 14) (N := some 88) (v := ?_) (a' := ?_) #[true, true, true, true, true, true, true, true, true, true, true, true, true, true, true, false, false] rfl rfl (by kernel_rfl) (fun _ _ _ h => h) (Or.inl ⟨by rfl, ?_⟩) ?_ ?_
  rotate_left
  ·intro w'
   go_simp
   with_reducible rfl
  rotate_left
  ·simp only [Act.put, List.setIfInBounds_toArray, List.set_cons_zero, List.set_cons_succ, i64_w, i32_w]
   rfl
  refine pure_ (i := 15) (N := some 89) (v := ?_) (a' := ?_) #[true, true, true, true, true, true, true, true, true, true, true, true, true, true, true, true, false] rfl rfl (by kernel_rfl) (fun _ _ _ h => h) (Or.inl ⟨by rfl, ?_⟩) ?_ ?_
  rotate_left
  ·intro w'
   go_simp
   with_reducible rfl
  rotate_left
  ·simp only [Act.put, List.setIfInBounds_toArray, List.set_cons_zero, List.set_cons_succ, i64_w, i32_w]
   rfl
  refine last_ (i := 16) (N := none) #[true, true, true, true, true, true, true, true, true, true, true, true, true, true, true, true, true] rfl rfl (by kernel_rfl) (by decide) (fun K hK => ?_)
  have hs0_ : W5_.cell? ⟨g, 0, none⟩ = some (.int .i64 (wrap64 q)) := IsS42.cell_0 hHeld.st
  have hf0_ := IsS42.froz_0 hHeld.st
  refine skip_ (w1 := ?_) (by rfl) rfl ?_ ?_
  rotate_left
  ·go_simp
   rfl
  refine hK.out _ _ ?_
  refine done_ (by kernel_rfl) ?_
  clear hK K
  clear hs0_
  clear hf0_
  have h4 := IsS42.set_0 hHeld.st t3
  have hb4 := below_set hHeld.bel (IsS42.ge hHeld.st) (j := 0) (v := .int .i64 t3)
  have hk4 := KeepBut.set_ hHeld.keep 0 (.int .i64 t3)
  clear hHeld
  generalize W5_.setCell ⟨g, 0, none⟩ (.int .i64 t3) = W6 at h4 hb4 hk4 ⊢
  have hc0_ := IsS42.cell_0 h4
  go_wp2
  go_ret
  exact ⟨rfl, h4, hb4, hk4⟩
 ·subst c
  go_enter Tryd.func9, Tryd.ntmps9
  go_wp2_with (first | ((with_reducible refine gate_dst (N := 14) rfl ?_); refine goesL_ (some 14) rfl rfl Tryd.func15 (by kernel_rfl) rfl #[.int .i64 a2, .int .i64 0, .int .i64 1125899906842624] rfl (by (try simp only [List.map_toArray, List.map_cons, List.map_nil]); first | done | rfl) ?_; (with_reducible refine (sat_Clamp.calls a2 0 1125899906842624 t _ At).mono ?_); rintro e w' ⟨rfl, ⟨nd, rfl⟩⟩; refine ⟨_, rfl, ?_⟩; have hI1 := IsS42.drewN hI nd; have hB1 := pw_below_drewN hB nd; have hK1 := keep_drewN (KeepBut.refl w g none) nd; generalize World.drewN w nd = W1 at hI1 hB1 hK1 ⊢; have hc0_ : W1.cell? ⟨g, 0, none⟩ = some (.int .i64 s0_0) := IsS42.cell_0 hI1; have hf0_ := IsS42.froz_0 hI1; have hc1_ : W1.cell? ⟨g, 1, none⟩ = some (.int .i64 s0_1) := IsS42.cell_1 hI1; have hf1_ := IsS42.froz_1 hI1; have hc2_ : W1.cell? ⟨g, 2, none⟩ = some (.int .i64 s0_2) := IsS42.cell_2 hI1; have hf2_ := IsS42.froz_2 hI1; have hc3_ : W1.cell? ⟨g, 3, none⟩ = some (.bool true) := IsS42.cell_3 hI1; have hf3_ := IsS42.froz_3 hI1; have hc4_ : W1.cell? ⟨g, 4, none⟩ = some (.int .i64 s0_4) := IsS42.cell_4 hI1; have hf4_ := IsS42.froz_4 hI1) | ((with_reducible refine gate_dst (N := 40) rfl ?_); refine goesL_ (some 40) rfl rfl Tryd.func15 (by kernel_rfl) rfl #[.int .i64 a1, .int .i64 0, .int .i64 256] rfl (by (try simp only [List.map_toArray, List.map_cons, List.map_nil]); first | done | rfl) ?_; (with_reducible refine (sat_Clamp.calls a1 0 256 n _ An).mono ?_); rintro e w' ⟨rfl, ⟨nd, rfl⟩⟩; refine ⟨_, rfl, ?_⟩; have hI2 := IsS42.drewN (IsS42.set_4 (IsS42.set_3 hI1 true) t) nd; have hB2 := pw_below_drewN (below_set (below_set hB1 (IsS42.ge hI1) (j := 3) (v := .bool true)) (IsS42.ge hI1) (j := 4) (v := .int .i64 t)) nd; have hK2 := keep_drewN (KeepBut.set_ (KeepBut.set_ hK1 3 (.bool true)) 4 (.int .i64 t)) nd; clear hI1 hB1 hK1; clear hc0_ hf0_ hc1_ hf1_ hc2_ hf2_ hc3_ hf3_ hc4_ hf4_; generalize World.drewN ((W1.setCell ⟨g, 3, none⟩ (.bool true)).setCell ⟨g, 4, none⟩ (.int .i64 t)) nd = W2 at hI2 hB2 hK2 ⊢; have hc0_ : W2.cell? ⟨g, 0, none⟩ = some (.int .i64 s0_0) := IsS42.cell_0 hI2; have hf0_ := IsS42.froz_0 hI2; have hc1_ : W2.cell? ⟨g, 1, none⟩ = some (.int .i64 s0_1) := IsS42.cell_1 hI2; have hf1_ := IsS42.froz_1 hI2; have hc2_ : W2.cell? ⟨g, 2, none⟩ = some (.int .i64 s0_2) := IsS42.cell_2 hI2; have hf2_ := IsS42.froz_2 hI2; have hc3_ : W2.cell? ⟨g, 3, none⟩ = some (.bool true) := IsS42.cell_3 hI2; have hf3_ := IsS42.froz_3 hI2; have hc4_ : W2.cell? ⟨g, 4, none⟩ = some (.int .i64 t) := IsS42.cell_4 hI2; have hf4_ := IsS42.froz_4 hI2; have hG2 := hG.below hB2; obtain ⟨q0, q1, q2, q3, q4, q5, q6, q7, q8, q9, q10, q11, q12, q13, q14⟩ := hG2))
  refine wp_loop_rounds 4 ?_
  rw [rounds_succ]
  go_wp2
  rw [rounds_succ]
  go_wp2
  refine namedG_ ?_
  intro W3 hW3
  have h1 : LH w0 w W3 g (W2.alloc (.cells #[.int .i64 5, .int .i64 105, .int .i64 100, .int .i64 1000, .int .i64 0] 45)).heap.size s0_0 s0_1 s0_2 true t 26 1 1 0 0 := by rw [hW3]; exact ⟨IsS42.alloc (IsS42.alloc (hI2) _) _, below_alloc (below_alloc (hB2) _) _, keep_alloc (keep_alloc (hK2) _) _, blk_new _ _⟩
  (try simp only [sizeG_] at h1 ⊢)
  clear hW3 hI2 hB2 hK2
  generalize W2.heap.size + 1 = b at h1 ⊢
  refine start_ (n := 22) (S := fun w' => LH w0 w w' g b s0_0 s0_1 s0_2 true t 26 1 1 0 0) (ds := [21]) #[false, false, false, false, false, false, false, false, false, false, false, false, false, false, false, false, false, false, false, false, false, false] (by kernel_rfl) rfl rfl h1.drew (fun hHeld => ?_)
  clear h1
  generalize W3.drew = W3 at hHeld ⊢
  refine pure_ (i := 0) (N := some 52) (v := ?_) (a' := ?_) #[true, false, false, false, false, false, false, false, false, false, false, false, false, false, false, false, false, false, false, false, false, false] rfl rfl (by kernel_rfl) (fun _ _ _ h => h) (Or.inl ⟨by rfl, ?_⟩) ?_ ?_
  rotate_left
  ·intro w'
   go_simp
   with_reducible rfl
  rotate_left
  ·simp only [Act.put, List.setIfInBounds_toArray, List.set_cons_zero, List.set_cons_succ, i64_w, i32_w]
   rfl
  refine pure_ (i := 1) (N := some 53) (v := ?_) (a' := ?_) #[true, true, false, false, false, false, false, false, false, false, false, false, false, false, false, false, false, false, false, false, false, false] rfl rfl (by kernel_rfl) (fun _ _ _ h => h) (Or.inl ⟨by rfl, ?_⟩) ?_ ?_
  rotate_left
  ·intro w'
   go_simp
   with_reducible rfl
  rotate_left
  ·simp only [Act.put, List.setIfInBounds_toArray, List.set_cons_zero, List.set_cons_succ, i64_w, i32_w]
   rfl
  refine pure_ (i := 2) (N := some 54) (v := ?_) (a' := ?_) #[true, true, true, false, false, false, false, false, false, false, false, false, false, false, false, false, false, false, false, false, false, false] rfl rfl (by kernel_rfl) (fun _ _ _ h => h) (Or.inl ⟨by rfl, ?_⟩) ?_ ?_
  rotate_left
  ·intro w'
   go_simp
   with_reducible rfl
  rotate_left
  ·simp only [Act.put, List.setIfInBounds_toArray, List.set_cons_zero, List.set_cons_succ, i64_w, i32_w]
   rfl
  refine pure_ (i := 3) (N := some 55) (v := ?_) (a' := ?_) #[true, true, true, true, false, false, false, false, false, false, false, false, false, false, false, false, false, false, false, false, false, false] rfl rfl (by kernel_rfl) (fun _ _ _ h => h) (Or.inl ⟨by rfl, ?_⟩) ?_ ?_
  rotate_left
  ·intro w'
   go_simp
   with_reducible rfl
  rotate_left
  ·simp only [Act.put, List.setIfInBounds_toArray, List.set_cons_zero, List.set_cons_succ, i64_w, i32_w]
   rfl
  refine take_ (i := 4) (N := some 56) (v := ?_) (a' := ?_) #[true, true, true, true, true, false, false, false, false, false, false, false, false, false, false, false, false, false, false, false, false, false] rfl rfl (by kernel_rfl) (fun _ _ _ h => h) (Or.inl ⟨by rfl, ?_⟩) hHeld ?_ ?_
  rotate_left
  ·intro w' hw'
   have cb0_ : w'.cell? ⟨g, 0, none⟩ = some (.int .i64 s0_0) := IsS42.cell_0 hw'.st
   go_simp
   with_reducible rfl
  rotate_left
  ·simp only [Act.put, List.setIfInBounds_toArray, List.set_cons_zero, List.set_cons_succ, i64_w, i32_w]
   rfl
  refine pure_ (i := 5) (N := some 57) (v := ?_) (a' := ?_) #[true, true, true, true, true, true, false, false, false, false, false, false, false, false, false, false, false, false, false, false, false, false] rfl rfl (by kernel_rfl) (fun _ _ _ h => h) (Or.inl ⟨by rfl, ?_⟩) ?_ ?_
  rotate_left
  ·intro w'
   go_simp
   with_reducible rfl
  rotate_left
  ·simp only [Act.put, List.setIfInBounds_toArray, List.set_cons_zero, List.set_cons_succ, i64_w, i32_w]
   rfl
  refine take_ (i := 6) (N := some 58) (v := ?_) (a' := ?_) #[true, true, true, true, true, true, true, false, false, false, false, false, false, false, false, false, false, false, false, false, false, false] rfl rfl (by kernel_rfl) (fun _ _ _ h => h) (Or.inl ⟨by rfl, ?_⟩) hHeld ?_ ?_
  rotate_left
  ·intro w' hw'
   have cb0_ : w'.cell? ⟨b, 1, none⟩ = some (.int .i64 1) := (blk_cell hw'.row 1).trans rfl
   go_simp
   with_reducible rfl
  rotate_left
  ·simp only [Act.put, List.setIfInBounds_toArray, List.set_cons_zero, List.set_cons_succ, i64_w, i32_w]
   rfl
  refine pure_ (i := 7) (N := some 59) (v := ?_) (a' := ?_) #[true, true, true, true, true, true, true, true, false, false, false, false, false, false, false, false, false, false, false, false, false, false] rfl rfl (by kernel_rfl) (fun _ _ _ h => h) (Or.inl ⟨by rfl, ?_⟩) ?_ ?_
  rotate_left
  ·intro w'
   go_simp
   with_reducible rfl
  rotate_left
  ·simp only [Act.put, List.setIfInBounds_toArray, List.set_cons_zero, List.set_cons_succ, i64_w, i32_w]
   rfl
  refine take_ (i := 8) (N := some 60) (v := ?_) (a' := ?_) #[true, true, true, true, true, true, true, true, true, false, false, false, false, false, false, false, false, false, false, false, false, false] rfl rfl (by kernel_rfl) (fun _ _ _ h => h) (Or.inl ⟨by rfl, ?_⟩) hHeld ?_ ?_
  rotate_left
  ·intro w' hw'
   have cb0_ : w'.cell? ⟨b, 4, none⟩ = some (.int .i64 0) := (blk_cell hw'.row 4).trans rfl
   go_simp
   with_reducible rfl
  rotate_left
  ·simp only [Act.put, List.setIfInBounds_toArray, List.set_cons_zero, List.set_cons_succ, i64_w, i32_w]
   rfl
  refine pure_ (i := 9) (N := some 61) (v := ?_) (a' := ?_) #[true, true, true, true, true, true, true, true, true, true, false, false, false, false, false, false, false, false, false, false, false, false] rfl rfl (by kernel_rfl) (fun _ _ _ h => h) (Or.inl ⟨by rfl, ?_⟩) ?_ ?_
  rotate_left
  ·intro w'
   go_simp
   with_reducible rfl
  rotate_left
  ·simp only [Act.put, List.setIfInBounds_toArray, List.set_cons_zero, List.set_cons_succ, i64_w, i32_w]
   rfl
  refine pure_ (i := 10) (N := some 62) (v := ?_) (a' := ?_) #[true, true, true, true, true, true, true, true, true, true, true, false, false, false, false, false, false, false, false, false, false, false] rfl rfl (by kernel_rfl) (fun _ _ _ h => h) (Or.inl ⟨by rfl, ?_⟩) ?_ ?_
  rotate_left
  ·intro w'
   go_simp
   with_reducible rfl
  rotate_left
  ·simp only [Act.put, List.setIfInBounds_toArray, List.set_cons_zero, List.set_cons_succ, i64_w, i32_w]
   rfl
  refine pure_ (i := 11) (N := some 63) (v := ?_) (a' := ?_) #[true, true, true, true, true, true, true, true, true, true, true, true, false, false, false, false, false, false, false, false, false, false] rfl rfl (by kernel_rfl) (fun _ _ _ h => h) (Or.inl ⟨by rfl, ?_⟩) ?_ ?_
  rotate_left
  ·intro w'
   go_simp
   with_reducible rfl
  rotate_left
  ·simp only [Act.put, List.setIfInBounds_toArray, List.set_cons_zero, List.set_cons_succ, i64_w, i32_w]
   rfl
  refine pure_ (i := 12) (N := some 64) (v := ?_) (a' := ?_) #[true, true, true, true, true, true, true, true, true, true, true, true, true, false, false, false, false, false, false, false, false, false] rfl rfl (by kernel_rfl) (fun _ _ _ h => h) (Or.inl ⟨by rfl, ?_⟩) ?_ ?_
  rotate_left
  ·intro w'
   go_simp
   with_reducible rfl
  rotate_left
  ·simp only [Act.put, List.setIfInBounds_toArray, List.set_cons_zero, List.set_cons_succ, i64_w, i32_w]
   rfl
  refine take_ (i := 13) (N := some 65) (v := ?_) (a' := ?_) #[true, true, true, true, true, true, true, true, true, true, true, true, true, true, false, false, false, false, false, false, false, false] rfl rfl (by kernel_rfl) (fun _ _ _ h => h) (Or.inl ⟨by rfl, ?_⟩) hHeld ?_ ?_
  rotate_left
  ·intro w' hw'
   have cb0_ : w'.cell? ⟨b, 2, none⟩ = some (.int .i64 1) := (blk_cell hw'.row 2).trans rfl
   go_simp
   with_reducible rfl
  rotate_left
  ·simp only [Act.put, List.setIfInBounds_toArray, List.set_cons_zero, List.set_cons_succ, i64_w, i32_w]
   rfl
  refine pure_ (i := 14) (N := some 66) (v := ?_) (a' := ?_) #[true, true, true, true, true, true, true, true, true, true, true, true, true, true, true, false, false, false, false, false, false, false] rfl rfl (by kernel_rfl) (fun _ _ _ h => h) (Or.inl ⟨by rfl, ?_⟩) ?_ ?_
  rotate_left
  ·intro w'
   go_simp
   with_reducible rfl
  rotate_left
  ·simp only [Act.put, List.setIfInBounds_toArray, List.set_cons_zero, List.set_cons_succ, i64_w, i32_w]
   rfl
  refine pure_ (i := 16) (N := some 68) (v := ?_) (a' := ?_) #[true, true, true, true, true, true, true, true, true, true, true, true, true, true, true, false, true, false, false, false, false, false] rfl rfl (by kernel_rfl) (fun _ _ _ h => h) (Or.inl ⟨by rfl, ?_⟩) ?_ ?_
  rotate_left
  ·intro w'
   go_simp
   with_reducible rfl
  rotate_left
  ·simp only [Act.put, List.setIfInBounds_toArray, List.set_cons_zero, List.set_cons_succ, i64_w, i32_w]
   rfl
  refine take_ (i := 17) (N := some 69) (v := ?_) (a' := ?_) #[true, true, true, true, true, true, true, true, true, true, true, true, true, true, true, false, true, true, false, false, false, false] rfl rfl (by kernel_rfl) (fun _ _ _ h => h) (Or.inl ⟨by rfl, ?_⟩) hHeld ?_ ?_
  rotate_left
  ·intro w' hw'
   have cb0_ : w'.cell? ⟨b, 3, none⟩ = some (.int .i64 0) := (blk_cell hw'.row 3).trans rfl
   go_simp
   with_reducible rfl
  rotate_left
  ·simp only [Act.put, List.setIfInBounds_toArray, List.set_cons_zero, List.set_cons_succ, i64_w, i32_w]
   rfl
  refine one_ (i := 15) (N := some 67) #[true, true, true, true, true, true, true, true, true, true, true, true, true, true, true, true, true, true, false, false, false, false] rfl rfl (by kernel_rfl) (by decide) (fun K hK => ?_)
  refine goes_ Tryd.func16 (by kernel_rfl) rfl #[.int .i64 s0_0, .int .i64 (wrap64 (1 - wrap64 0)), .int .i64 1, .int .i64 1] (by rfl) rfl rfl (by simp only [List.map_toArray, List.map_cons, List.map_nil]; rfl) ?_
  refine (muldiv_Do.calls s0_0 _ 1 1 q _ Aq).mono ?_
  rintro e w' ⟨rfl, hb⟩
  refine ⟨_, rfl, ?_⟩
  have hN_ := hHeld.below hb
  refine hK.out _ _ hN_ (fun hHeld => ?_)
  clear hK K hN_ hb
  refine norm_ (a' := ?_) ?_ ?_
  rotate_left
  ·show Act.put _ (some 67) _ = _
   simp only [Act.put, List.setIfInBounds_toArray, List.set_cons_zero, List.set_cons_succ, i64_w, i32_w]
   rfl
  refine pure_ (i := 18) (N := some 70) (v := ?_) (a' := ?_) #[true, true, true, true, true, true, true, true, true, true, true, true, true, true, true, true, true, true, true, false, false, false] rfl rfl (by kernel_rfl) (fun _ _ _ h => h) (Or.inl ⟨by rfl, ?_⟩) ?_ ?_
  rotate_left
  ·intro w'
   go_simp
   with_reducible rfl
  rotate_left
  ·simp only [Act.put, List.setIfInBounds_toArray, List.set_cons_zero, List.set_cons_succ, i64_w, i32_w]
   rfl
  refine pure_ (i := 19) (N := some 71) (v := ?_) (a' := ?_) #[true, true, true, true, true, true, true, true, true, true, true, true, true, true, true, true, true, true, true, true, false, false] rfl rfl (by kernel_rfl) (fun _ _ _ h => h) (Or.inl ⟨by rfl, ?_⟩) ?_ ?_
  rotate_left
  ·intro w'
   go_simp
   with_reducible rfl
  rotate_left
  ·simp only [Act.put, List.setIfInBounds_toArray, List.set_cons_zero, List.set_cons_succ, i64_w, i32_w]
   rfl
  refine pure_ (i := 20) (N := some 72) (v := ?_) (a' := ?_) #[true, true, true, true, true, true, true, true, true, true, true, true, true, true, true, true, true, true, true, true, true, false] rfl rfl (by kernel_rfl) (fun _ _ _ h => h) (Or.inl ⟨by rfl, ?_⟩) ?_ ?_
  rotate_left
  ·intro w'
   go_simp
   with_reducible rfl
  rotate_left
  ·simp only [Act.put, List.setIfInBounds_toArray, List.set_cons_zero, List.set_cons_succ, i64_w, i32_w]
   rfl
  refine last_ (i := 21) (N := none) #[true, true, true, true, true, true, true, true, true, true, true, true, true, true, true, true, true, true, true, true, true, true] rfl rfl (by kernel_rfl) (by decide) (fun K hK => ?_)
  have hs0_ : w'.cell? ⟨g, 0, none⟩ = some (.int .i64 s0_0) := IsS42.cell_0 hHeld.st
  have hf0_ := IsS42.froz_0 hHeld.st
  refine skip_ (w1 := ?_) (by rfl) rfl ?_ ?_
  rotate_left
  ·go_simp
   rfl
  refine hK.out _ _ ?_
  refine done_ (by kernel_rfl) ?_
  clear hK K
  clear hs0_
  clear hf0_
  have h2 : IsS42 w0 (w'.setCell ⟨g, 0, none⟩ (.int .i64 (wrap64 q))) g (wrap64 q) s0_1 s0_2 true t := IsS42.set_0 hHeld.st _
  have hb2 := below_set hHeld.bel (IsS42.ge hHeld.st) (j := 0) (v := .int .i64 (wrap64 q))
  have hk2 := KeepBut.set_ hHeld.keep 0 (.int .i64 (wrap64 q))
  clear hHeld
  generalize w'.setCell ⟨g, 0, none⟩ (.int .i64 (wrap64 q)) = W5 at h2 hb2 hk2 ⊢
  try go_wp2
  have h3 : LK w0 w W5 g (wrap64 q) s0_1 s0_2 true t := ⟨h2, hb2, hk2⟩
  clear h2 hb2 hk2
  refine start_ (n := 17) (S := fun w' => LK w0 w w' g (wrap64 q) s0_1 s0_2 true t) (ds := [16]) #[false, false, false, false, false, false, false, false, false, false, false, false, false, false, false, false, false] (by kernel_rfl) rfl rfl h3.drew (fun hHeld => ?_)
  clear h3
  generalize W5.drew = W5 at hHeld ⊢
  refine pure_ (i := 0) (N := some 74) (v := ?_) (a' := ?_) #[true, false, false, false, false, false, false, false, false, false, false, false, false, false, false, false, false] rfl rfl (by kernel_rfl) (fun _ _ _ h => h) (Or.inl ⟨by rfl, ?_⟩) ?_ ?_
  rotate_left
  ·intro w'
   go_simp
   with_reducible rfl
  rotate_left
  ·simp only [Act.put, List.setIfInBounds_toArray, List.set_cons_zero, List.set_cons_succ, i64_w, i32_w]
   rfl
  refine pure_ (i := 1) (N := some 75) (v := ?_) (a' := ?_) #[true, true, false, false, false, false, false, false, false, false, false, false, false, false, false, false, false] rfl rfl (by kernel_rfl) (fun _ _ _ h => h) (Or.inl ⟨by rfl, ?_⟩) ?_ ?_
  rotate_left
  ·intro w'
   go_simp
   with_reducible rfl
  rotate_left
  ·simp only [Act.put, List.setIfInBounds_toArray, List.set_cons_zero, List.set_cons_succ, i64_w, i32_w]
   rfl
  refine pure_ (i := 2) (N := some 76) (v := ?_) (a' := ?_) #[true, true, true, false, false, false, false, false, false, false, false, false, false, false, false, false, false] rfl rfl (by kernel_rfl) (fun _ _ _ h => h) (Or.inl ⟨by rfl, ?_⟩) ?_ ?_
  rotate_left
  ·intro w'
   go_simp
   with_reducible rfl
  rotate_left
  ·simp only [Act.put, List.setIfInBounds_toArray, List.set_cons_zero, List.set_cons_succ, i64_w, i32_w]
   rfl
  refine pure_ (i := 3) (N := some 77) (v := ?_) (a' := ?_) #[true, true, true, true, false, false, false, false, false, false, false, false, false, false, false, false, false] rfl rfl (by kernel_rfl) (fun _ _ _ h => h) (Or.inl ⟨by rfl, ?_⟩) ?_ ?_
  rotate_left
  ·intro w'
   go_simp
   with_reducible rfl
  rotate_left
  ·simp only [Act.put, List.setIfInBounds_toArray, List.set_cons_zero, List.set_cons_succ, i64_w, i32_w]
   rfl
  refine take_ (i := 4) (N := some 78) (v := ?_) (a' := ?_) #[true, true, true, true, true, false, false, false, false, false, false, false, false, false, false, false, false] rfl rfl (by kernel_rfl) (fun _ _ _ h => h) (Or.inl ⟨by rfl, ?_⟩) hHeld ?_ ?_
  rotate_left
  ·intro w' hw'
   have cb0_ : w'.cell? ⟨g, 0, none⟩ = some (.int .i64 (wrap64 q)) := IsS42.cell_0 hw'.st
   go_simp
   with_reducible rfl
  rotate_left
  ·simp only [Act.put, List.setIfInBounds_toArray, List.set_cons_zero, List.set_cons_succ, i64_w, i32_w]
   rfl
  refine pure_ (i := 5) (N := some 79) (v := ?_) (a' := ?_) #[true, true, true, true, true, true, false, false, false, false, false, false, false, false, false, false, false] rfl rfl (by kernel_rfl) (fun _ _ _ h => h) (Or.inl ⟨by rfl, ?_⟩) ?_ ?_
  rotate_left
  ·intro w'
   go_simp
   with_reducible rfl
  rotate_left
  ·simp only [Act.put, List.setIfInBounds_toArray, List.set_cons_zero, List.set_cons_succ, i64_w, i32_w]
   rfl
  refine pure_ (i := 6) (N := some 80) (v := ?_) (a' := ?_) #[true, true, true, true, true, true, true, false, false, false, false, false, false, false, false, false, false] rfl rfl (by kernel_rfl) (fun _ _ _ h => h) (Or.inl ⟨by rfl, ?_⟩) ?_ ?_
  rotate_left
  ·intro w'
   go_simp
   with_reducible rfl
  rotate_left
  ·simp only [Act.put, List.setIfInBounds_toArray, List.set_cons_zero, List.set_cons_succ, i64_w, i32_w]
   rfl
  refine pure_ (i := 7) (N := some 81) (v := ?_) (a' := ?_) #[true, true, true, true, true, true, true, true, false, false, false, false, false, false, false, false, false] rfl rfl (by kernel_rfl) (fun _ _ _ h => h) (Or.inl ⟨by rfl, ?_⟩) ?_ ?_
  rotate_left
  ·intro w'
   go_simp
   with_reducible rfl
  rotate_left
  ·simp only [Act.put, List.setIfInBounds_toArray, List.set_cons_zero, List.set_cons_succ, i64_w, i32_w]
   rfl
  refine take_ (i := 8) (N := some 82) (v := ?_) (a' := ?_) #[true, true, true, true, true, true, true, true, true, false, false, false, false, false, false, false, false] rfl rfl (by kernel_rfl) (fun _ _ _ h => h) (Or.inl ⟨by rfl, ?_⟩) hHeld ?_ ?_
  rotate_left
  ·intro w' hw'
   have cb0_ : w'.cell? ⟨g, 1, none⟩ = some (.int .i64 s0_1) := IsS42.cell_1 hw'.st
   go_simp
   with_reducible rfl
  rotate_left
  ·simp only [Act.put, List.setIfInBounds_toArray, List.set_cons_zero, List.set_cons_succ, i64_w, i32_w]
   rfl
  refine pure_ (i := 9) (N := some 83) (v := ?_) (a' := ?_) #[true, true, true, true, true, true, true, true, true, true, false, false, false, false, false, false, false] rfl rfl (by kernel_rfl) (fun _ _ _ h => h) (Or.inl ⟨by rfl, ?_⟩) ?_ ?_
  rotate_left
  ·intro w'
   go_simp
   with_reducible rfl
  rotate_left
  ·simp only [Act.put, List.setIfInBounds_toArray, List.set_cons_zero, List.set_cons_succ, i64_w, i32_w]
   rfl
  refine pure_ (i := 10) (N := some 84) (v := ?_) (a' := ?_) #[true, true, true, true, true, true, true, true, true, true, true, false, false, false, false, false, false] rfl rfl (by kernel_rfl) (fun _ _ _ h => h) (Or.inl ⟨by rfl, ?_⟩) ?_ ?_
  rotate_left
  ·intro w'
   go_simp
   with_reducible rfl
  rotate_left
  ·simp only [Act.put, List.setIfInBounds_toArray, List.set_cons_zero, List.set_cons_succ, i64_w, i32_w]
   rfl
  refine pure_ (i := 11) (N := some 85) (v := ?_) (a' := ?_) #[true, true, true, true, true, true, true, true, true, true, true, true, false, false, false, false, false] rfl rfl (by kernel_rfl) (fun _ _ _ h => h) (Or.inl ⟨by rfl, ?_⟩) ?_ ?_
  rotate_left
  ·intro w'
   go_simp
   with_reducible rfl
  rotate_left
  ·simp only [Act.put, List.setIfInBounds_toArray, List.set_cons_zero, List.set_cons_succ, i64_w, i32_w]
   rfl
  refine take_ (i := 12) (N := some 86) (v := ?_) (a' := ?_) #[true, true, true, true, true, true, true, true, true, true, true, true, true, false, false, false, false] rfl rfl (by kernel_rfl) (fun _ _ _ h => h) (Or.inl ⟨by rfl, ?_⟩) hHeld ?_ ?_
  rotate_left
  ·intro w' hw'
   have cb0_ : w'.cell? ⟨g, 2, none⟩ = some (.int .i64 s0_2) := IsS42.cell_2 hw'.st
   go_simp
   with_reducible rfl
  rotate_left
  ·simp only [Act.put, List.setIfInBounds_toArray, List.set_cons_zero, List.set_cons_succ, i64_w, i32_w]
   rfl
  refine one_ (i := 13) (N := some 87) #[true, true, true, true, true, true, true, true, true, true, true, true, true, true, false, false, false] rfl rfl (by kernel_rfl) (by decide) (fun K hK => ?_)
  refine goes_ Tryd.func15 (by kernel_rfl) rfl #[.int .i64 (wrap64 q), .int .i64 s0_1, .int .i64 s0_2] (by rfl) rfl rfl (by simp only [List.map_toArray, List.map_cons, List.map_nil]; rfl) ?_
  with_reducible refine (sat_Clamp.calls (wrap64 q) s0_1 s0_2 t3 _ A3).mono ?_
  rintro e w' ⟨rfl, ⟨nd, rfl⟩⟩
  refine ⟨_, rfl, ?_⟩
  have hN_ := hHeld.drewN nd
  refine hK.out _ _ hN_ (fun hHeld => ?_)
  clear hK K hN_
  generalize W5.drewN nd = W5_ at hHeld ⊢
  refine norm_ (a' := ?_) ?_ ?_
  rotate_left
  ·show Act.put _ (some 87) _ = _
   simp only [Act.put, List.setIfInBounds_toArray, List.set_cons_zero, List.set_cons_succ, i64_w, i32_w]
   rfl
  refine pure_ (i := 14) (N := some 88) (v := ?_) (a' := ?_) #[true, true, true, true, true, true, true, true, true, true, true, true, true, true, true, false, false] rfl rfl (by kernel_rfl) (fun _ _ _ h => h) (Or.inl ⟨by rfl, ?_⟩) ?_ ?_
  rotate_left
  ·intro w'
   go_simp
   with_reducible rfl
  rotate_left
  ·simp only [Act.put, List.setIfInBounds_toArray, List.set_cons_zero, List.set_cons_succ, i64_w, i32_w]
   rfl
  refine pure_ (i := 15) (N := some 89) (v := ?_) (a' := ?_) #[true, true, true, true, true, true, true, true, true, true, true, true, true, true, true, true, false] rfl rfl (by kernel_rfl) (fun _ _ _ h => h) (Or.inl ⟨by rfl, ?_⟩) ?_ ?_
  rotate_left
  ·intro w'
   go_simp
   with_reducible rfl
  rotate_left
  ·simp only [Act.put, List.setIfInBounds_toArray, List.set_cons_zero, List.set_cons_succ, i64_w, i32_w]
   rfl
  refine last_ (i := 16) (N := none) #[true, true, true, true, true, true, true, true, true, true, true, true, true, true, true, true, true] rfl rfl (by kernel_rfl) (by decide) (fun K hK => ?_)
  have hs0_ : W5_.cell? ⟨g, 0, none⟩ = some (.int .i64 (wrap64 q)) := IsS42.cell_0 hHeld.st
  have hf0_ := IsS42.froz_0 hHeld.st
  refine skip_ (w1 := ?_) (by rfl) rfl ?_ ?_
  rotate_left
  ·go_simp
   rfl
  refine hK.out _ _ ?_
  refine done_ (by kernel_rfl) ?_
  clear hK K
  clear hs0_
  clear hf0_
  have h4 := IsS42.set_0 hHeld.st t3
  have hb4 := below_set hHeld.bel (IsS42.ge hHeld.st) (j := 0) (v := .int .i64 t3)
  have hk4 := KeepBut.set_ hHeld.keep 0 (.int .i64 t3)
  clear hHeld
  generalize W5_.setCell ⟨g, 0, none⟩ (.int .i64 t3) = W6 at h4 hb4 hk4 ⊢
  have hc0_ := IsS42.cell_0 h4
  go_wp2
  go_ret
  exact ⟨rfl, h4, hb4, hk4⟩
set_option maxHeartbeats 8000000 in
set_option maxRecDepth 100000 in
theorem lossy_upd2 (g : Nat) (s0_0 s0_1 s0_2 : Int) (s0_3 : Bool) (s0_4 a1 a2 n t : Int) (w0 w : World) (hI : IsS42 w0 w g s0_0 s0_1 s0_2 s0_3 s0_4) (hB : Below w0.heap.size w0 w) (hG : GL w0) (q : Int) (Aq : muldiv_Do.f s0_0 (wrap64 (512 - wrap64 n)) 512 1 = some q) (t3 : Int) (A3 : sat_Clamp.f (wrap64 q) s0_1 s0_2 = some t3) (At : sat_Clamp.f a2 0 1125899906842624 = some t) (An : sat_Clamp.f a1 0 256 = some n) (cn : ¬ n ≤ 5) (cn2 : ¬ n ≤ 26) (hn : n ≤ 256) (c : s0_3 = false ∨ s0_3 = true ∧ decide (wrap64 (t - s0_4) < 200000) = false) :
  Calls Tryd.prog 9 #[.pointer (some ⟨g, 0, none⟩), .int .i64 a1, .int .i64 a2] w fun e w' => e = .returned (.int .i64 t3) ∧ IsS42 w0 w' g t3 s0_1 s0_2 true t ∧ Below w0.heap.size w0 w' ∧ KeepBut w w' g none := by
 have hpn : ∀ (a_ : Addr) (W_ : World), (Go.binOp .eql 24 (.pointer (some a_)) (.pointer none)).run Tryd.prog W_ = .ok (.bool false) W_ := fun _ _ => by kernel_rfl
 have hix0 : ∀ W_ : World, (Instr.index 46 (.agg #[.int .i64 5, .int .i64 105, .int .i64 100, .int .i64 1000, .int .i64 0, .int .i64 26, .int .i64 1, .int .i64 1, .int .i64 0, .int .i64 0, .int .i64 256, .int .i64 512, .int .i64 512, .int .i64 0, .int .i64 1]) (.int .i64 0)).run Tryd.prog W_ = .ok (.agg #[.int .i64 5, .int .i64 105, .int .i64 100, .int .i64 1000, .int .i64 0]) W_ := fun _ => by kernel_rfl
 have hix1 : ∀ W_ : World, (Instr.index 46 (.agg #[.int .i64 5, .int .i64 105, .int .i64 100, .int .i64 1000, .int .i64 0, .int .i64 26, .int .i64 1, .int .i64 1, .int .i64 0, .int .i64 0, .int .i64 256, .int .i64 512, .int .i64 512, .int .i64 0, .int .i64 1]) (.int .i64 1)).run Tryd.prog W_ = .ok (.agg #[.int .i64 26, .int .i64 1, .int .i64 1, .int .i64 0, .int .i64 0]) W_ := fun _ => by kernel_rfl
 have hix2 : ∀ W_ : World, (Instr.index 46 (.agg #[.int .i64 5, .int .i64 105, .int .i64 100, .int .i64 1000, .int .i64 0, .int .i64 26, .int .i64 1, .int .i64 1, .int .i64 0, .int .i64 0, .int .i64 256, .int .i64 512, .int .i64 512, .int .i64 0, .int .i64 1]) (.int .i64 2)).run Tryd.prog W_ = .ok (.agg #[.int .i64 256, .int .i64 512, .int .i64 512, .int .i64 0, .int .i64 1]) W_ := fun _ => by kernel_rfl
 have cn0_ : decide (5 < n) = true := decide_eq_true (by omega)
 have cn1_ : decide (26 < n) = true := decide_eq_true (by omega)
 have cn2_ : decide (256 < n) = false := decide_eq_false (by omega)
 rcases c with c | ⟨c, hc⟩
 ·subst c
  go_enter Tryd.func9, Tryd.ntmps9
  go_wp2_with (first | ((with_reducible refine gate_dst (N := 14) rfl ?_); refine goesL_ (some 14) rfl rfl Tryd.func15 (by kernel_rfl) rfl #[.int .i64 a2, .int .i64 0, .int .i64 1125899906842624] rfl (by (try simp only [List.map_toArray, List.map_cons, List.map_nil]); first | done | rfl) ?_; (with_reducible refine (sat_Clamp.calls a2 0 1125899906842624 t _ At).mono ?_); rintro e w' ⟨rfl, ⟨nd, rfl⟩⟩; refine ⟨_, rfl, ?_⟩; have hI1 := IsS42.drewN hI nd; have hB1 := pw_below_drewN hB nd; have hK1 := keep_drewN (KeepBut.refl w g none) nd; generalize World.drewN w nd = W1 at hI1 hB1 hK1 ⊢; have hc0_ : W1.cell? ⟨g, 0, none⟩ = some (.int .i64 s0_0) := IsS42.cell_0 hI1; have hf0_ := IsS42.froz_0 hI1; have hc1_ : W1.cell? ⟨g, 1, none⟩ = some (.int .i64 s0_1) := IsS42.cell_1 hI1; have hf1_ := IsS42.froz_1 hI1; have hc2_ : W1.cell? ⟨g, 2, none⟩ = some (.int .i64 s0_2) := IsS42.cell_2 hI1; have hf2_ := IsS42.froz_2 hI1; have hc3_ : W1.cell? ⟨g, 3, none⟩ = some (.bool false) := IsS42.cell_3 hI1; have hf3_ := IsS42.froz_3 hI1; have hc4_ : W1.cell? ⟨g, 4, none⟩ = some (.int .i64 s0_4) := IsS42.cell_4 hI1; have hf4_ := IsS42.froz_4 hI1) | ((with_reducible refine gate_dst (N := 40) rfl ?_); refine goesL_ (some 40) rfl rfl Tryd.func15 (by kernel_rfl) rfl #[.int .i64 a1, .int .i64 0, .int .i64 256] rfl (by (try simp only [List.map_toArray, List.map_cons, List.map_nil]); first | done | rfl) ?_; (with_reducible refine (sat_Clamp.calls a1 0 256 n _ An).mono ?_); rintro e w' ⟨rfl, ⟨nd, rfl⟩⟩; refine ⟨_, rfl, ?_⟩; have hI2 := IsS42.drewN (IsS42.set_4 (IsS42.set_3 hI1 true) t) nd; have hB2 := pw_below_drewN (below_set (below_set hB1 (IsS42.ge hI1) (j := 3) (v := .bool true)) (IsS42.ge hI1) (j := 4) (v := .int .i64 t)) nd; have hK2 := keep_drewN (KeepBut.set_ (KeepBut.set_ hK1 3 (.bool true)) 4 (.int .i64 t)) nd; clear hI1 hB1 hK1; clear hc0_ hf0_ hc1_ hf1_ hc2_ hf2_ hc3_ hf3_ hc4_ hf4_; generalize World.drewN ((W1.setCell ⟨g, 3, none⟩ (.bool true)).setCell ⟨g, 4, none⟩ (.int .i64 t)) nd = W2 at hI2 hB2 hK2 ⊢; have hc0_ : W2.cell? ⟨g, 0, none⟩ = some (.int .i64 s0_0) := IsS42.cell_0 hI2; have hf0_ := IsS42.froz_0 hI2; have hc1_ : W2.cell? ⟨g, 1, none⟩ = some (.int .i64 s0_1) := IsS42.cell_1 hI2; have hf1_ := IsS42.froz_1 hI2; have hc2_ : W2.cell? ⟨g, 2, none⟩ = some (.int .i64 s0_2) := IsS42.cell_2 hI2; have hf2_ := IsS42.froz_2 hI2; have hc3_ : W2.cell? ⟨g, 3, none⟩ = some (.bool true) := IsS42.cell_3 hI2; have hf3_ := IsS42.froz_3 hI2; have hc4_ : W2.cell? ⟨g, 4, none⟩ = some (.int .i64 t) := IsS42.cell_4 hI2; have hf4_ := IsS42.froz_4 hI2; have hG2 := hG.below hB2; obtain ⟨q0, q1, q2, q3, q4, q5, q6, q7, q8, q9, q10, q11, q12, q13, q14⟩ := hG2))
  refine wp_loop_rounds 4 ?_
  rw [rounds_succ]
  go_wp2
  rw [rounds_succ]
  go_wp2
  rw [rounds_succ]
  go_wp2
  refine namedG_ ?_
  intro W3 hW3
  have h1 : LH w0 w W3 g ((W2.alloc (.cells #[.int .i64 5, .int .i64 105, .int .i64 100, .int .i64 1000, .int .i64 0] 45)).alloc (.cells #[.int .i64 26, .int .i64 1, .int .i64 1, .int .i64 0, .int .i64 0] 45)).heap.size s0_0 s0_1 s0_2 true t 256 512 512 0 1 := by rw [hW3]; exact ⟨IsS42.alloc (IsS42.alloc (IsS42.alloc (hI2) _) _) _, below_alloc (below_alloc (below_alloc (hB2) _) _) _, keep_alloc (keep_alloc (keep_alloc (hK2) _) _) _, blk_new _ _⟩
  (try simp only [sizeG_] at h1 ⊢)
  clear hW3 hI2 hB2 hK2
  generalize W2.heap.size + 1 + 1 = b at h1 ⊢
  refine start_ (n := 22) (S := fun w' => LH w0 w w' g b s0_0 s0_1 s0_2 true t 256 512 512 0 1) (ds := [21]) #[false, false, false, false, false, false, false, false, false, false, false, false, false, false, false, false, false, false, false, false, false, false] (by kernel_rfl) rfl rfl h1.drew (fun hHeld => ?_)
  clear h1
  generalize W3.drew = W3 at hHeld ⊢
  refine pure_ (i := 0) (N := some 52) (v := ?_) (a' := ?_) #[true, false, false, false, false, false, false, false, false, false, false, false, false, false, false, false, false, false, false, false, false, false] rfl rfl (by kernel_rfl) (fun _ _ _ h => h) (Or.inl ⟨by rfl, ?_⟩) ?_ ?_
  rotate_left
  ·intro w'
   go_simp
   with_reducible rfl
  rotate_left
  ·simp only [Act.put, List.setIfInBounds_toArray, List.set_cons_zero, List.set_cons_succ, i64_w, i32_w]
   rfl
  refine pure_ (i := 1) (N := some 53) (v := ?_) (a' := ?_) #[true, true, false, false, false, false, false, false, false, false, false, false, false, false, false, false, false, false, false, false, false, false] rfl rfl (by kernel_rfl) (fun _ _ _ h => h) (Or.inl ⟨by rfl, ?_⟩) ?_ ?_
  rotate_left
  ·intro w'
   go_simp
   with_reducible rfl
  rotate_left
  ·simp only [Act.put, List.setIfInBounds_toArray, List.set_cons_zero, List.set_cons_succ, i64_w, i32_w]
   rfl
  refine pure_ (i := 2) (N := some 54) (v := ?_) (a' := ?_) #[true, true, true, false, false, false, false, false, false, false, false, false, false, false, false, false, false, false, false, false, false, false] rfl rfl (by kernel_rfl) (fun _ _ _ h => h) (Or.inl ⟨by rfl, ?_⟩) ?_ ?_
  rotate_left
  ·intro w'
   go_simp
   with_reducible rfl
  rotate_left
  ·simp only [Act.put, List.setIfInBounds_toArray, List.set_cons_zero, List.set_cons_succ, i64_w, i32_w]
   rfl
  refine pure_ (i := 3) (N := some 55) (v := ?_) (a' := ?_) #[true, true, true, true, false, false, false, false, false, false, false, false, false, false, false, false, false, false, false, false, false, false] rfl rfl (by kernel_rfl) (fun _ _ _ h => h) (Or.inl ⟨by rfl, ?_⟩) ?_ ?_
  rotate_left
  ·intro w'
   go_simp
   with_reducible rfl
  rotate_left
  ·simp only [Act.put, List.setIfInBounds_toArray, List.set_cons_zero, List.set_cons_succ, i64_w, i32_w]
   rfl
  refine take_ (i := 4) (N := some 56) (v := ?_) (a' := ?_) #[true, true, true, true, true, false, false, false, false, false, false, false, false, false, false, false, false, false, false, false, false, false] rfl rfl (by kernel_rfl) (fun _ _ _ h => h) (Or.inl ⟨by rfl, ?_⟩) hHeld ?_ ?_
  rotate_left
  ·intro w' hw'
   have cb0_ : w'.cell? ⟨g, 0, none⟩ = some (.int .i64 s0_0) := IsS42.cell_0 hw'.st
   go_simp
   with_reducible rfl
  rotate_left
  ·simp only [Act.put, List.setIfInBounds_toArray, List.set_cons_zero, List.set_cons_succ, i64_w, i32_w]
   rfl
  refine pure_ (i := 5) (N := some 57) (v := ?_) (a' := ?_) #[true, true, true, true, true, true, false, false, false, false, false, false, false, false, false, false, false, false, false, false, false, false] rfl rfl (by kernel_rfl) (fun _ _ _ h => h) (Or.inl ⟨by rfl, ?_⟩) ?_ ?_
  rotate_left
  ·intro w'
   go_simp
   with_reducible rfl
  rotate_left
  ·simp only [Act.put, List.setIfInBounds_toArray, List.set_cons_zero, List.set_cons_succ, i64_w, i32_w]
   rfl
  refine take_ (i := 6) (N := some 58) (v := ?_) (a' := ?_) #[true, true, true, true, true, true, true, false, false, false, false, false, false, false, false, false, false, false, false, false, false, false] rfl rfl (by kernel_rfl) (fun _ _ _ h => h) (Or.inl ⟨by rfl, ?_⟩) hHeld ?_ ?_
  rotate_left
  ·intro w' hw'
   have cb0_ : w'.cell? ⟨b, 1, none⟩ = some (.int .i64 512) := (blk_cell hw'.row 1).trans rfl
   go_simp
   with_reducible rfl
  rotate_left
  ·simp only [Act.put, List.setIfInBounds_toArray, List.set_cons_zero, List.set_cons_succ, i64_w, i32_w]
   rfl
  refine pure_ (i := 7) (N := some 59) (v := ?_) (a' := ?_) #[true, true, true, true, true, true, true, true, false, false, false, false, false, false, false, false, false, false, false, false, false, false] rfl rfl (by kernel_rfl) (fun _ _ _ h => h) (Or.inl ⟨by rfl, ?_⟩) ?_ ?_
  rotate_left
  ·intro w'
   go_simp
   with_reducible rfl
  rotate_left
  ·simp only [Act.put, List.setIfInBounds_toArray, List.set_cons_zero, List.set_cons_succ, i64_w, i32_w]
   rfl
  refine take_ (i := 8) (N := some 60) (v := ?_) (a' := ?_) #[true, true, true, true, true, true, true, true, true, false, false, false, false, false, false, false, false, false, false, false, false, false] rfl rfl (by kernel_rfl) (fun _ _ _ h => h) (Or.inl ⟨by rfl, ?_⟩) hHeld ?_ ?_
  rotate_left
  ·intro w' hw'
   have cb0_ : w'.cell? ⟨b, 4, none⟩ = some (.int .i64 1) := (blk_cell hw'.row 4).trans rfl
   go_simp
   with_reducible rfl
  rotate_left
  ·simp only [Act.put, List.setIfInBounds_toArray, List.set_cons_zero, List.set_cons_succ, i64_w, i32_w]
   rfl
  refine pure_ (i := 9) (N := some 61) (v := ?_) (a' := ?_) #[true, true, true, true, true, true, true, true, true, true, false, false, false, false, false, false, false, false, false, false, false, false] rfl rfl (by kernel_rfl) (fun _ _ _ h => h) (Or.inl ⟨by rfl, ?_⟩) ?_ ?_
  rotate_left
  ·intro w'
   go_simp
   with_reducible rfl
  rotate_left
  ·simp only [Act.put, List.setIfInBounds_toArray, List.set_cons_zero, List.set_cons_succ, i64_w, i32_w]
   rfl
  refine pure_ (i := 10) (N := some 62) (v := ?_) (a' := ?_) #[true, true, true, true, true, true, true, true, true, true, true, false, false, false, false, false, false, false, false, false, false, false] rfl rfl (by kernel_rfl) (fun _ _ _ h => h) (Or.inl ⟨by rfl, ?_⟩) ?_ ?_
  rotate_left
  ·intro w'
   go_simp
   with_reducible rfl
  rotate_left
  ·simp only [Act.put, List.setIfInBounds_toArray, List.set_cons_zero, List.set_cons_succ, i64_w, i32_w]
   rfl
  refine pure_ (i := 11) (N := some 63) (v := ?_) (a' := ?_) #[true, true, true, true, true, true, true, true, true, true, true, true, false, false, false, false, false, false, false, false, false, false] rfl rfl (by kernel_rfl) (fun _ _ _ h => h) (Or.inl ⟨by rfl, ?_⟩) ?_ ?_
  rotate_left
  ·intro w'
   go_simp
   with_reducible rfl
  rotate_left
  ·simp only [Act.put, List.setIfInBounds_toArray, List.set_cons_zero, List.set_cons_succ, i64_w, i32_w]
   rfl
  refine pure_ (i := 12) (N := some 64) (v := ?_) (a' := ?_) #[true, true, true, true, true, true, true, true, true, true, true, true, true, false, false, false, false, false, false, false, false, false] rfl rfl (by kernel_rfl) (fun _ _ _ h => h) (Or.inl ⟨by rfl, ?_⟩) ?_ ?_
  rotate_left
  ·intro w'
   go_simp
   with_reducible rfl
  rotate_left
  ·simp only [Act.put, List.setIfInBounds_toArray, List.set_cons_zero, List.set_cons_succ, i64_w, i32_w]
   rfl
  refine take_ (i := 13) (N := some 65) (v := ?_) (a' := ?_) #[true, true, true, true, true, true, true, true, true, true, true, true, true, true, false, false, false, false, false, false, false, false] rfl rfl (by kernel_rfl) (fun _ _ _ h => h) (Or.inl ⟨by rfl, ?_⟩) hHeld ?_ ?_
  rotate_left
  ·intro w' hw'
   have cb0_ : w'.cell? ⟨b, 2, none⟩ = some (.int .i64 512) := (blk_cell hw'.row 2).trans rfl
   go_simp
   with_reducible rfl
  rotate_left
  ·simp only [Act.put, List.setIfInBounds_toArray, List.set_cons_zero, List.set_cons_succ, i64_w, i32_w]
   rfl
  refine pure_ (i := 14) (N := some 66) (v := ?_) (a' := ?_) #[true, true, true, true, true, true, true, true, true, true, true, true, true, true, true, false, false, false, false, false, false, false] rfl rfl (by kernel_rfl) (fun _ _ _ h => h) (Or.inl ⟨by rfl, ?_⟩) ?_ ?_
  rotate_left
  ·intro w'
   go_simp
   with_reducible rfl
  rotate_left
  ·simp only [Act.put, List.setIfInBounds_toArray, List.set_cons_zero, List.set_cons_succ, i64_w, i32_w]
   rfl
  refine pure_ (i := 16) (N := some 68) (v := ?_) (a' := ?_) #[true, true, true, true, true, true, true, true, true, true, true, true, true, true, true, false, true, false, false, false, false, false] rfl rfl (by kernel_rfl) (fun _ _ _ h => h) (Or.inl ⟨by rfl, ?_⟩) ?_ ?_
  rotate_left
  ·intro w'
   go_simp
   with_reducible rfl
  rotate_left
  ·simp only [Act.put, List.setIfInBounds_toArray, List.set_cons_zero, List.set_cons_succ, i64_w, i32_w]
   rfl
  refine take_ (i := 17) (N := some 69) (v := ?_) (a' := ?_) #[true, true, true, true, true, true, true, true, true, true, true, true, true, true, true, false, true, true, false, false, false, false] rfl rfl (by kernel_rfl) (fun _ _ _ h => h) (Or.inl ⟨by rfl, ?_⟩) hHeld ?_ ?_
  rotate_left
  ·intro w' hw'
   have cb0_ : w'.cell? ⟨b, 3, none⟩ = some (.int .i64 0) := (blk_cell hw'.row 3).trans rfl
   go_simp
   with_reducible rfl
  rotate_left
  ·simp only [Act.put, List.setIfInBounds_toArray, List.set_cons_zero, List.set_cons_succ, i64_w, i32_w]
   rfl
  refine one_ (i := 15) (N := some 67) #[true, true, true, true, true, true, true, true, true, true, true, true, true, true, true, true, true, true, false, false, false, false] rfl rfl (by kernel_rfl) (by decide) (fun K hK => ?_)
  refine goes_ Tryd.func16 (by kernel_rfl) rfl #[.int .i64 s0_0, .int .i64 (wrap64 (512 - wrap64 n)), .int .i64 512, .int .i64 1] (by rfl) rfl rfl (by simp only [List.map_toArray, List.map_cons, List.map_nil]; rfl) ?_
  refine (muldiv_Do.calls s0_0 _ 512 1 q _ Aq).mono ?_
  rintro e w' ⟨rfl, hb⟩
  refine ⟨_, rfl, ?_⟩
  have hN_ := hHeld.below hb
  refine hK.out _ _ hN_ (fun hHeld => ?_)
  clear hK K hN_ hb
  refine norm_ (a' := ?_) ?_ ?_
  rotate_left
  ·show Act.put _ (some 67) _ = _
   simp only [Act.put, List.setIfInBounds_toArray, List.set_cons_zero, List.set_cons_succ, i64_w, i32_w]
   rfl
  refine pure_ (i := 18) (N := some 70) (v := ?_) (a' := ?_) #[true, true, true, true, true, true, true, true, true, true, true, true, true, true, true, true, true, true, true, false, false, false] rfl rfl (by kernel_rfl) (fun _ _ _ h => h) (Or.inl ⟨by rfl, ?_⟩) ?_ ?_
  rotate_left
  ·intro w'
   go_simp
   with_reducible rfl
  rotate_left
  ·simp only [Act.put, List.setIfInBounds_toArray, List.set_cons_zero, List.set_cons_succ, i64_w, i32_w]
   rfl
  refine pure_ (i := 19) (N := some 71) (v := ?_) (a' := ?_) #[true, true, true, true, true, true, true, true, true, true, true, true, true, true, true, true, true, true, true, true, false, false] rfl rfl (by kernel_rfl) (fun _ _ _ h => h) (Or.inl ⟨by rfl, ?_⟩) ?_ ?_
  rotate_left
  ·intro w'
   go_simp
   with_reducible rfl
  rotate_left
  ·simp only [Act.put, List.setIfInBounds_toArray, List.set_cons_zero, List.set_cons_succ, i64_w, i32_w]
   rfl
  refine pure_ (i := 20) (N := some 72) (v := ?_) (a' := ?_) #[true, true, true, true, true, true, true, true, true, true, true, true, true, true, true, true, true, true, true, true, true, false] rfl rfl (by kernel_rfl) (fun _ _ _ h => h) (Or.inl ⟨by rfl, ?_⟩) ?_ ?_
  rotate_left
  ·intro w'
   go_simp
   with_reducible rfl
  rotate_left
  ·simp only [Act.put, List.setIfInBounds_toArray, List.set_cons_zero, List.set_cons_succ, i64_w, i32_w]
   rfl
  refine last_ (i := 21) (N := none) #[true, true, true, true, true, true, true, true, true, true, true, true, true, true, true, true, true, true, true, true, true, true] rfl rfl (by kernel_rfl) (by decide) (fun K hK => ?_)
  have hs0_ : w'.cell? ⟨g, 0, none⟩ = some (.int .i64 s0_0) := IsS42.cell_0 hHeld.st
  have hf0_ := IsS42.froz_0 hHeld.st
  refine skip_ (w1 := ?_) (by rfl) rfl ?_ ?_
  rotate_left
  ·go_simp
   rfl
  refine hK.out _ _ ?_
  refine done_ (by kernel_rfl) ?_
  clear hK K
  clear hs0_
  clear hf0_
  have h2 : IsS42 w0 (w'.setCell ⟨g, 0, none⟩ (.int .i64 (wrap64 q))) g (wrap64 q) s0_1 s0_2 true t := IsS42.set_0 hHeld.st _
  have hb2 := below_set hHeld.bel (IsS42.ge hHeld.st) (j := 0) (v := .int .i64 (wrap64 q))
  have hk2 := KeepBut.set_ hHeld.keep 0 (.int .i64 (wrap64 q))
  clear hHeld
  generalize w'.setCell ⟨g, 0, none⟩ (.int .i64 (wrap64 q)) = W5 at h2 hb2 hk2 ⊢
  try go_wp2
  have h3 : LK w0 w W5 g (wrap64 q) s0_1 s0_2 true t := ⟨h2, hb2, hk2⟩
  clear h2 hb2 hk2
  refine start_ (n := 17) (S := fun w' => LK w0 w w' g (wrap64 q) s0_1 s0_2 true t) (ds := [16]) #[false, false, false, false, false, false, false, false, false, false, false, false, false, false, false, false, false] (by kernel_rfl) rfl rfl h3.drew (fun hHeld => ?_)
  clear h3
  generalize W5.drew = W5 at hHeld ⊢
  refine pure_ (i := 0) (N := some 74) (v := ?_) (a' := ?_) #[true, false, false, false, false, false, false, false, false, false, false, false, false, false, false, false, false] rfl rfl (by kernel_rfl) (fun _ _ _ h => h) (Or.inl ⟨by rfl, ?_⟩) ?_ ?_
  rotate_left
  ·intro w'
   go_simp
   with_reducible rfl
  rotate_left
  ·simp only [Act.put, List.setIfInBounds_toArray, List.set_cons_zero, List.set_cons_succ, i64_w, i32_w]
   rfl
  refine pure_ (i := 1) (N := some 75) (v := ?_) (a' := ?_) #[true, true, false, false, false, false, false, false, false, false, false, false, false, false, false, false, false] rfl rfl (by kernel_rfl) (fun _ _ _ h => h) (Or.inl ⟨by rfl, ?_⟩) ?_ ?_
  rotate_left
  ·intro w'
   go_simp
   with_reducible rfl
  rotate_left
  ·simp only [Act.put, List.setIfInBounds_toArray, List.set_cons_zero, List.set_cons_succ, i64_w, i32_w]
   rfl
  refine pure_ (i := 2) (N := some 76) (v := ?_) (a' := ?_) #[true, true, true, false, false, false, false, false, false, false, false, false, false, false, false, false, false] rfl rfl (by kernel_rfl) (fun _ _ _ h => h) (Or.inl ⟨by rfl, ?_⟩) ?_ ?_
  rotate_left
  ·intro w'
   go_simp
   with_reducible rfl
  rotate_left
  ·simp only [Act.put, List.setIfInBounds_toArray, List.set_cons_zero, List.set_cons_succ, i64_w, i32_w]
   rfl
  refine pure_ (i := 3) (N := some 77) (v := ?_) (a' := ?_) #[true, true, true, true, false, false, false, false, false, false, false, false, false, false, false, false, false] rfl rfl (by kernel_rfl) (fun _ _ _ h => h) (Or.inl ⟨by rfl, ?_⟩) ?_ ?_
  rotate_left
  ·intro w'
   go_simp
   with_reducible rfl
  rotate_left
  ·simp only [Act.put, List.setIfInBounds_toArray, List.set_cons_zero, List.set_cons_succ, i64_w, i32_w]
   rfl
  refine take_ (i := 4) (N := some 78) (v := ?_) (a' := ?_) #[true, true, true, true, true, false, false, false, false, false, false, false, false, false, false, false, false] rfl rfl (by kernel_rfl) (fun _ _ _ h => h) (Or.inl ⟨by rfl, ?_⟩) hHeld ?_ ?_
  rotate_left
  ·intro w' hw'
   have cb0_ : w'.cell? ⟨g, 0, none⟩ = some (.int .i64 (wrap64 q)) := IsS42.cell_0 hw'.st
   go_simp
   with_reducible rfl
  rotate_left
  ·simp only [Act.put, List.setIfInBounds_toArray, List.set_cons_zero, List.set_cons_succ, i64_w, i32_w]
   rfl
  refine pure_ (i := 5) (N := some 79) (v := ?_) (a' := ?_) #[true, true, true, true, true, true, false, false, false, false, false, false, false, false, false, false, false] rfl rfl (by kernel_rfl) (fun _ _ _ h => h) (Or.inl ⟨by rfl, ?_⟩) ?_ ?_
  rotate_left
  ·intro w'
   go_simp
   with_reducible rfl
  rotate_left
  ·simp only [Act.put, List.setIfInBounds_toArray, List.set_cons_zero, List.set_cons_succ, i64_w, i32_w]
   rfl
  refine pure_ (i := 6) (N := some 80) (v := ?_) (a' := ?_) #[true, true, true, true, true, true, true, false, false, false, false, false, false, false, false, false, false] rfl rfl (by kernel_rfl) (fun _ _ _ h => h) (Or.inl ⟨by rfl, ?_⟩) ?_ ?_
  rotate_left
  ·intro w'
   go_simp
   with_reducible rfl
  rotate_left
  ·simp only [Act.put, List.setIfInBounds_toArray, List.set_cons_zero, List.set_cons_succ, i64_w, i32_w]
   rfl
  refine pure_ (i := 7) (N := some 81) (v := ?_) (a' := ?_) #[true, true, true, true, true, true, true, true, false, false, false, false, false, false, false, false, false] rfl rfl (by kernel_rfl) (fun _ _ _ h => h) (Or.inl ⟨by rfl, ?_⟩) ?_ ?_
  rotate_left
  ·intro w'
   go_simp
   with_reducible rfl
  rotate_left
  ·simp only [Act.put, List.setIfInBounds_toArray, List.set_cons_zero, List.set_cons_succ, i64_w, i32_w]
   rfl
  refine take_ (i := 8) (N := some 82) (v := ?_) (a' := ?_) #[true, true, true, true, true, true, true, true, true, false, false, false, false, false, false, false, false] rfl rfl (by kernel_rfl) (fun _ _ _ h => h) (Or.inl ⟨by rfl, ?_⟩) hHeld ?_ ?_
  rotate_left
  ·intro w' hw'
   have cb0_ : w'.cell? ⟨g, 1, none⟩ = some (.int .i64 s0_1) := IsS42.cell_1 hw'.st
   go_simp
   with_reducible rfl
  rotate_left
  ·simp only [Act.put, List.setIfInBounds_toArray, List.set_cons_zero, List.set_cons_succ, i64_w, i32_w]
   rfl
  refine pure_ (i := 9) (N := some 83) (v := ?_) (a' := ?_) #[true, true, true, true, true, true, true, true, true, true, false, false, false, false, false, false, false] rfl rfl (by kernel_rfl) (fun _ _ _ h => h) (Or.inl ⟨by rfl, ?_⟩) ?_ ?_
  rotate_left
  ·intro w'
   go_simp
   with_reducible rfl
  rotate_left
  ·simp only [Act.put, List.setIfInBounds_toArray, List.set_cons_zero, List.set_cons_succ, i64_w, i32_w]
   rfl
  refine pure_ (i := 10) (N := some 84) (v := ?_) (a' := ?_) #[true, true, true, true, true, true, true, true, true, true, true, false, false, false, false, false, false] rfl rfl (by kernel_rfl) (fun _ _ _ h => h) (Or.inl ⟨by rfl, ?_⟩) ?_ ?_
  rotate_left
  ·intro w'
   go_simp
   with_reducible rfl
  rotate_left
  ·simp only [Act.put, List.setIfInBounds_toArray, List.set_cons_zero, List.set_cons_succ, i64_w, i32_w]
   rfl
  refine pure_ (i := 11) (N := some 85) (v := ?_) (a' := ?_) #[true, true, true, true, true, true, true, true, true, true, true, true, false, false, false, false, false] rfl rfl (by kernel_rfl) (fun _ _ _ h => h) (Or.inl ⟨by rfl, ?_⟩) ?_ ?_
  rotate_left
  ·intro w'
   go_simp
   with_reducible rfl
  rotate_left
  ·simp only [Act.put, List.setIfInBounds_toArray, List.set_cons_zero, List.set_cons_succ, i64_w, i32_w]
   rfl
  refine take_ (i := 12) (N := some 86) (v := ?_) (a' := ?_) #[true, true, true, true, true, true, true, true, true, true, true, true, true, false, false, false, false] rfl rfl (by kernel_rfl) (fun _ _ _ h => h) (Or.inl ⟨by rfl, ?_⟩) hHeld ?_ ?_
  rotate_left
  ·intro w' hw'
   have cb0_ : w'.cell? ⟨g, 2, none⟩ = some (.int .i64 s0_2) := IsS42.cell_2 hw'.st
   go_simp
   with_reducible rfl
  rotate_left
  ·simp only [Act.put, List.setIfInBounds_toArray, List.set_cons_zero, List.set_cons_succ, i64_w, i32_w]
   rfl
  refine one_ (i := 13) (N := some 87) #[true, true, true, true, true, true, true, true, true, true, true, true, true, true, false, false, false] rfl rfl (by kernel_rfl) (by decide) (fun K hK => ?_)
  refine goes_ Tryd.func15 (by kernel_rfl) rfl #[.int .i64 (wrap64 q), .int .i64 s0_1, .int .i64 s0_2] (by rfl) rfl rfl (by simp only [List.map_toArray, List.map_cons, List.map_nil]; rfl) ?_
  with_reducible refine (sat_Clamp.calls (wrap64 q) s0_1 s0_2 t3 _ A3).mono ?_
  rintro e w' ⟨rfl, ⟨nd, rfl⟩⟩
  refine ⟨_, rfl, ?_⟩
  have hN_ := hHeld.drewN nd
  refine hK.out _ _ hN_ (fun hHeld => ?_)
  clear hK K hN_
  generalize W5.drewN nd = W5_ at hHeld ⊢
  refine norm_ (a' := ?_) ?_ ?_
  rotate_left
  ·show Act.put _ (some 87) _ = _
   simp only [Act.put, List.setIfInBounds_toArray, List.set_cons_zero, List.set_cons_succ, i64_w, i32_w]
   rfl
  refine pure_ (i := 14) (N := some 88) (v := ?_) (a' := ?_) #[true, true, true, true, true, true, true, true, true, true, true, true, true, true, true, false, false] rfl rfl (by kernel_rfl) (fun _ _ _ h => h) (Or.inl ⟨by rfl, ?_⟩) ?_ ?_
  rotate_left
  ·intro w'
   go_simp
   with_reducible rfl
  rotate_left
  ·simp only [Act.put, List.setIfInBounds_toArray, List.set_cons_zero, List.set_cons_succ, i64_w, i32_w]
   rfl
  refine pure_ (i := 15) (N := some 89) (v := ?_) (a' := ?_) #[true, true, true, true, true, true, true, true, true, true, true, true, true, true, true, true, false] rfl rfl (by kernel_rfl) (fun _ _ _ h => h) (Or.inl ⟨by rfl, ?_⟩) ?_ ?_
  rotate_left
  ·intro w'
   go_simp
   with_reducible rfl
  rotate_left
  ·simp only [Act.put, List.setIfInBounds_toArray, List.set_cons_zero, List.set_cons_succ, i64_w, i32_w]
   rfl
  refine last_ (i := 16) (N := none) #[true, true, true, true, true, true, true, true, true, true, true, true, true, true, true, true, true] rfl rfl (by kernel_rfl) (by decide) (fun K hK => ?_)
  have hs0_ : W5_.cell? ⟨g, 0, none⟩ = some (.int .i64 (wrap64 q)) := IsS42.cell_0 hHeld.st
  have hf0_ := IsS42.froz_0 hHeld.st
  refine skip_ (w1 := ?_) (by rfl) rfl ?_ ?_
  rotate_left
  ·go_simp
   rfl
  refine hK.out _ _ ?_
  refine done_ (by kernel_rfl) ?_
  clear hK K
  clear hs0_
  clear hf0_
  have h4 := IsS42.set_0 hHeld.st t3
  have hb4 := below_set hHeld.bel (IsS42.ge hHeld.st) (j := 0) (v := .int .i64 t3)
  have hk4 := KeepBut.set_ hHeld.keep 0 (.int .i64 t3)
  clear hHeld
  generalize W5_.setCell ⟨g, 0, none⟩ (.int .i64 t3) = W6 at h4 hb4 hk4 ⊢
  have hc0_ := IsS42.cell_0 h4
  go_wp2
  go_ret
  exact ⟨rfl, h4, hb4, hk4⟩
 ·subst c
  go_enter Tryd.func9, Tryd.ntmps9
  go_wp2_with (first | ((with_reducible refine gate_dst (N := 14) rfl ?_); refine goesL_ (some 14) rfl rfl Tryd.func15 (by kernel_rfl) rfl #[.int .i64 a2, .int .i64 0, .int .i64 1125899906842624] rfl (by (try simp only [List.map_toArray, List.map_cons, List.map_nil]); first | done | rfl) ?_; (with_reducible refine (sat_Clamp.calls a2 0 1125899906842624 t _ At).mono ?_); rintro e w' ⟨rfl, ⟨nd, rfl⟩⟩; refine ⟨_, rfl, ?_⟩; have hI1 := IsS42.drewN hI nd; have hB1 := pw_below_drewN hB nd; have hK1 := keep_drewN (KeepBut.refl w g none) nd; generalize World.drewN w nd = W1 at hI1 hB1 hK1 ⊢; have hc0_ : W1.cell? ⟨g, 0, none⟩ = some (.int .i64 s0_0) := IsS42.cell_0 hI1; have hf0_ := IsS42.froz_0 hI1; have hc1_ : W1.cell? ⟨g, 1, none⟩ = some (.int .i64 s0_1) := IsS42.cell_1 hI1; have hf1_ := IsS42.froz_1 hI1; have hc2_ : W1.cell? ⟨g, 2, none⟩ = some (.int .i64 s0_2) := IsS42.cell_2 hI1; have hf2_ := IsS42.froz_2 hI1; have hc3_ : W1.cell? ⟨g, 3, none⟩ = some (.bool true) := IsS42.cell_3 hI1; have hf3_ := IsS42.froz_3 hI1; have hc4_ : W1.cell? ⟨g, 4, none⟩ = some (.int .i64 s0_4) := IsS42.cell_4 hI1; have hf4_ := IsS42.froz_4 hI1) | ((with_reducible refine gate_dst (N := 40) rfl ?_); refine goesL_ (some 40) rfl rfl Tryd.func15 (by kernel_rfl) rfl #[.int .i64 a1, .int .i64 0, .int .i64 256] rfl (by (try simp only [List.map_toArray, List.map_cons, List.map_nil]); first | done | rfl) ?_; (with_reducible refine (sat_Clamp.calls a1 0 256 n _ An).mono ?_); rintro e w' ⟨rfl, ⟨nd, rfl⟩⟩; refine ⟨_, rfl, ?_⟩; have hI2 := IsS42.drewN (IsS42.set_4 (IsS42.set_3 hI1 true) t) nd; have hB2 := pw_below_drewN (below_set (below_set hB1 (IsS42.ge hI1) (j := 3) (v := .bool true)) (IsS42.ge hI1) (j := 4) (v := .int .i64 t)) nd; have hK2 := keep_drewN (KeepBut.set_ (KeepBut.set_ hK1 3 (.bool true)) 4 (.int .i64 t)) nd; clear hI1 hB1 hK1; clear hc0_ hf0_ hc1_ hf1_ hc2_ hf2_ hc3_ hf3_ hc4_ hf4_; generalize World.drewN ((W1.setCell ⟨g, 3, none⟩ (.bool true)).setCell ⟨g, 4, none⟩ (.int .i64 t)) nd = W2 at hI2 hB2 hK2 ⊢; have hc0_ : W2.cell? ⟨g, 0, none⟩ = some (.int .i64 s0_0) := IsS42.cell_0 hI2; have hf0_ := IsS42.froz_0 hI2; have hc1_ : W2.cell? ⟨g, 1, none⟩ = some (.int .i64 s0_1) := IsS42.cell_1 hI2; have hf1_ := IsS42.froz_1 hI2; have hc2_ : W2.cell? ⟨g, 2, none⟩ = some (.int .i64 s0_2) := IsS42.cell_2 hI2; have hf2_ := IsS42.froz_2 hI2; have hc3_ : W2.cell? ⟨g, 3, none⟩ = some (.bool true) := IsS42.cell_3 hI2; have hf3_ := IsS42.froz_3 hI2; have hc4_ : W2.cell? ⟨g, 4, none⟩ = some (.int .i64 t) := IsS42.cell_4 hI2; have hf4_ := IsS42.froz_4 hI2; have hG2 := hG.below hB2; obtain ⟨q0, q1, q2, q3, q4, q5, q6, q7, q8, q9, q10, q11, q12, q13, q14⟩ := hG2))
  refine wp_loop_rounds 4 ?_
  rw [rounds_succ]
  go_wp2
  rw [rounds_succ]
  go_wp2
  rw [rounds_succ]
  go_wp2
  refine namedG_ ?_
  intro W3 hW3
  have h1 : LH w0 w W3 g ((W2.alloc (.cells #[.int .i64 5, .int .i64 105, .int .i64 100, .int .i64 1000, .int .i64 0] 45)).alloc (.cells #[.int .i64 26, .int .i64 1, .int .i64 1, .int .i64 0, .int .i64 0] 45)).heap.size s0_0 s0_1 s0_2 true t 256 512 512 0 1 := by rw [hW3]; exact ⟨IsS42.alloc (IsS42.alloc (IsS42.alloc (hI2) _) _) _, below_alloc (below_alloc (below_alloc (hB2) _) _) _, keep_alloc (keep_alloc (keep_alloc (hK2) _) _) _, blk_new _ _⟩
  (try simp only [sizeG_] at h1 ⊢)
  clear hW3 hI2 hB2 hK2
  generalize W2.heap.size + 1 + 1 = b at h1 ⊢
  refine start_ (n := 22) (S := fun w' => LH w0 w w' g b s0_0 s0_1 s0_2 true t 256 512 512 0 1) (ds := [21]) #[false, false, false, false, false, false, false, false, false, false, false, false, false, false, false, false, false, false, false, false, false, false] (by kernel_rfl) rfl rfl h1.drew (fun hHeld => ?_)
  clear h1
  generalize W3.drew = W3 at hHeld ⊢
  refine pure_ (i := 0) (N := some 52) (v := ?_) (a' := ?_) #[true, false, false, false, false, false, false, false, false, false, false, false, false, false, false, false, false, false, false, false, false, false] rfl rfl (by kernel_rfl) (fun _ _ _ h => h) (Or.inl ⟨by rfl, ?_⟩) ?_ ?_
  rotate_left
  ·intro w'
   go_simp
   with_reducible rfl
  rotate_left
  ·simp only [Act.put, List.setIfInBounds_toArray, List.set_cons_zero, List.set_cons_succ, i64_w, i32_w]
   rfl
  refine pure_ (i := 1) (N := some 53) (v := ?_) (a' := ?_) #[true, true, false, false, false, false, false, false, false, false, false, false, false, false, false, false, false, false, false, false, false, false] rfl rfl (by kernel_rfl) (fun _ _ _ h => h) (Or.inl ⟨by rfl, ?_⟩) ?_ ?_
  rotate_left
  ·intro w'
   go_simp
   with_reducible rfl
  rotate_left
  ·simp only [Act.put, List.setIfInBounds_toArray, List.set_cons_zero, List.set_cons_succ, i64_w, i32_w]
   rfl
  refine pure_ (i := 2) (N := some 54) (v := ?_) (a' := ?_) #[true, true, true, false, false, false, false, false, false, false, false, false, false, false, false, false, false, false, false, false, false, false] rfl rfl (by kernel_rfl) (fun _ _ _ h => h) (Or.inl ⟨by rfl, ?_⟩) ?_ ?_
  rotate_left
  ·intro w'
   go_simp
   with_reducible rfl
  rotate_left
  ·simp only [Act.put, List.setIfInBounds_toArray, List.set_cons_zero, List.set_cons_succ, i64_w, i32_w]
   rfl
  refine pure_ (i := 3) (N := some 55) (v := ?_) (a' := ?_) #[true, true, true, true, false, false, false, false, false, false, false, false, false, false, false, false, false, false, false, false, false, false] rfl rfl (by kernel_rfl) (fun _ _ _ h => h) (Or.inl ⟨by rfl, ?_⟩) ?_ ?_
  rotate_left
  ·intro w'
   go_simp
   with_reducible rfl
  rotate_left
  ·simp only [Act.put, List.setIfInBounds_toArray, List.set_cons_zero, List.set_cons_succ, i64_w, i32_w]
   rfl
  refine take_ (i := 4) (N := some 56) (v := ?_) (a' := ?_) #[true, true, true, true, true, false, false, false, false, false, false, false, false, false, false, false, false, false, false, false, false, false] rfl rfl (by kernel_rfl) (fun _ _ _ h => h) (Or.inl ⟨by rfl, ?_⟩) hHeld ?_ ?_
  rotate_left
  ·intro w' hw'
   have cb0_ : w'.cell? ⟨g, 0, none⟩ = some (.int .i64 s0_0) := IsS42.cell_0 hw'.st
   go_simp
   with_reducible rfl
  rotate_left
  ·simp only [Act.put, List.setIfInBounds_toArray, List.set_cons_zero, List.set_cons_succ, i64_w, i32_w]
   rfl
  refine pure_ (i := 5) (N := some 57) (v := ?_) (a' := ?_) #[true, true, true, true, true, true, false, false, false, false, false, false, false, false, false, false, false, false, false, false, false, false] rfl rfl (by kernel_rfl) (fun _ _ _ h => h) (Or.inl ⟨by rfl, ?_⟩) ?_ ?_
  rotate_left
  ·intro w'
   go_simp
   with_reducible rfl
  rotate_left
  ·simp only [Act.put, List.setIfInBounds_toArray, List.set_cons_zero, List.set_cons_succ, i64_w, i32_w]
   rfl
  refine take_ (i := 6) (N := some 58) (v := ?_) (a' := ?_) #[true, true, true, true, true, true, true, false, false, false, false, false, false, false, false, false, false, false, false, false, false, false] rfl rfl (by kernel_rfl) (fun _ _ _ h => h) (Or.inl ⟨by rfl, ?_⟩) hHeld ?_ ?_
  rotate_left
  ·intro w' hw'
   have cb0_ : w'.cell? ⟨b, 1, none⟩ = some (.int .i64 512) := (blk_cell hw'.row 1).trans rfl
   go_simp
   with_reducible rfl
  rotate_left
  ·simp only [Act.put, List.setIfInBounds_toArray, List.set_cons_zero, List.set_cons_succ, i64_w, i32_w]
   rfl
  refine pure_ (i := 7) (N := some 59) (v := ?_) (a' := ?_) #[true, true, true, true, true, true, true, true, false, false, false, false, false, false, false, false, false, false, false, false, false, false] rfl rfl (by kernel_rfl) (fun _ _ _ h => h) (Or.inl ⟨by rfl, ?_⟩) ?_ ?_
  rotate_left
  ·intro w'
   go_simp
   with_reducible rfl
  rotate_left
  ·simp only [Act.put, List.setIfInBounds_toArray, List.set_cons_zero, List.set_cons_succ, i64_w, i32_w]
   rfl
  refine take_ (i := 8) (N := some 60) (v := ?_) (a' := ?_) #[true, true, true, true, true, true, true, true, true, false, false, false, false, false, false, false, false, false, false, false, false, false] rfl rfl (by kernel_rfl) (fun _ _ _ h => h) (Or.inl ⟨by rfl, ?_⟩) hHeld ?_ ?_
  rotate_left
  ·intro w' hw'
   have cb0_ : w'.cell? ⟨b, 4, none⟩ = some (.int .i64 1) := (blk_cell hw'.row 4).trans rfl
   go_simp
   with_reducible rfl
  rotate_left
  ·simp only [Act.put, List.setIfInBounds_toArray, List.set_cons_zero, List.set_cons_succ, i64_w, i32_w]
   rfl
  refine pure_ (i := 9) (N := some 61) (v := ?_) (a' := ?_) #[true, true, true, true, true, true, true, true, true, true, false, false, false, false, false, false, false, false, false, false, false, false] rfl rfl (by kernel_rfl) (fun _ _ _ h => h) (Or.inl ⟨by rfl, ?_⟩) ?_ ?_
  rotate_left
  ·intro w'
   go_simp
   with_reducible rfl
  rotate_left
  ·simp only [Act.put, List.setIfInBounds_toArray, List.set_cons_zero, List.set_cons_succ, i64_w, i32_w]
   rfl
  refine pure_ (i := 10) (N := some 62) (v := ?_) (a' := ?_) #[true, true, true, true, true, true, true, true, true, true, true, false, false, false, false, false, false, false, false, false, false, false] rfl rfl (by kernel_rfl) (fun _ _ _ h => h) (Or.inl ⟨by rfl, ?_⟩) ?_ ?_
  rotate_left
  ·intro w'
   go_simp
   with_reducible rfl
  rotate_left
  ·simp only [Act.put, List.setIfInBounds_toArray, List.set_cons_zero, List.set_cons_succ, i64_w, i32_w]
   rfl
  refine pure_ (i := 11) (N := some 63) (v := ?_) (a' := ?_) #[true, true, true, true, true, true, true, true, true, true, true, true, false, false, false, false, false, false, false, false, false, false] rfl rfl (by kernel_rfl) (fun _ _ _ h => h) (Or.inl ⟨by rfl, ?_⟩) ?_ ?_
  rotate_left
  ·intro w'
   go_simp
   with_reducible rfl
  rotate_left
  ·simp only [Act.put, List.setIfInBounds_toArray, List.set_cons_zero, List.set_cons_succ, i64_w, i32_w]
   rfl
  refine pure_ (i := 12) (N := some 64) (v := ?_) (a' := ?_) #[true, true, true, true, true, true, true, true, true, true, true, true, true, false, false, false, false, false, false, false, false, false] rfl rfl (by kernel_rfl) (fun _ _ _ h => h) (Or.inl ⟨by rfl, ?_⟩) ?_ ?_
  rotate_left
  ·intro w'
   go_simp
   with_reducible rfl
  rotate_left
  ·simp only [Act.put, List.setIfInBounds_toArray, List.set_cons_zero, List.set_cons_succ, i64_w, i32_w]
   rfl
  refine take_ (i := 13) (N := some 65) (v := ?_) (a' := ?_) #[true, true, true, true, true, true, true, true, true, true, true, true, true, true, false, false, false, false, false, false, false, false] rfl rfl (by kernel_rfl) (fun _ _ _ h => h) (Or.inl ⟨by rfl, ?_⟩) hHeld ?_ ?_
  rotate_left
  ·intro w' hw'
   have cb0_ : w'.cell? ⟨b, 2, none⟩ = some (.int .i64 512) := (blk_cell hw'.row 2).trans rfl
   go_simp
   with_reducible rfl
  rotate_left
  ·simp only [Act.put, List.setIfInBounds_toArray, List.set_cons_zero, List.set_cons_succ, i64_w, i32_w]
   rfl
  refine pure_ (i := 14) (N := some 66) (v := ?_) (a' := ?_) #[true, true, true, true, true, true, true, true, true, true, true, true, true, true, true, false, false, false, false, false, false, false] rfl rfl (by kernel_rfl) (fun _ _ _ h => h) (Or.inl ⟨by rfl, ?_⟩) ?_ ?_
  rotate_left
  ·intro w'
   go_simp
   with_reducible rfl
  rotate_left
  ·simp only [Act.put, List.setIfInBounds_toArray, List.set_cons_zero, List.set_cons_succ, i64_w, i32_w]
   rfl
  refine pure_ (i := 16) (N := some 68) (v := ?_) (a' := ?_) #[true, true, true, true, true, true, true, true, true, true, true, true, true, true, true, false, true, false, false, false, false, false] rfl rfl (by kernel_rfl) (fun _ _ _ h => h) (Or.inl ⟨by rfl, ?_⟩) ?_ ?_
  rotate_left
  ·intro w'
   go_simp
   with_reducible rfl
  rotate_left
  ·simp only [Act.put, List.setIfInBounds_toArray, List.set_cons_zero, List.set_cons_succ, i64_w, i32_w]
   rfl
  refine take_ (i := 17) (N := some 69) (v := ?_) (a' := ?_) #[true, true, true, true, true, true, true, true, true, true, true, true, true, true, true, false, true, true, false, false, false, false] rfl rfl (by kernel_rfl) (fun _ _ _ h => h) (Or.inl ⟨by rfl, ?_⟩) hHeld ?_ ?_
  rotate_left
  ·intro w' hw'
   have cb0_ : w'.cell? ⟨b, 3, none⟩ = some (.int .i64 0) := (blk_cell hw'.row 3).trans rfl
   go_simp
   with_reducible rfl
  rotate_left
  ·simp only [Act.put, List.setIfInBounds_toArray, List.set_cons_zero, List.set_cons_succ, i64_w, i32_w]
   rfl
  refine one_ (i := 15) (N := some 67) #[true, true, true, true, true, true, true, true, true, true, true, true, true, true, true, true, true, true, false, false, false, false] rfl rfl (by kernel_rfl) (by decide) (fun K hK => ?_)
  refine goes_ Tryd.func16 (by kernel_rfl) rfl #[.int .i64 s0_0, .int .i64 (wrap64 (512 - wrap64 n)), .int .i64 512, .int .i64 1] (by rfl) rfl rfl (by simp only [List.map_toArray, List.map_cons, List.map_nil]; rfl) ?_
  refine (muldiv_Do.calls s0_0 _ 512 1 q _ Aq).mono ?_
  rintro e w' ⟨rfl, hb⟩
  refine ⟨_, rfl, ?_⟩
  have hN_ := hHeld.below hb
  refine hK.out _ _ hN_ (fun hHeld => ?_)
  clear hK K hN_ hb
  refine norm_ (a' := ?_) ?_ ?_
  rotate_left
  ·show Act.put _ (some 67) _ = _
   simp only [Act.put, List.setIfInBounds_toArray, List.set_cons_zero, List.set_cons_succ, i64_w, i32_w]
   rfl
  refine pure_ (i := 18) (N := some 70) (v := ?_) (a' := ?_) #[true, true, true, true, true, true, true, true, true, true, true, true, true, true, true, true, true, true, true, false, false, false] rfl rfl (by kernel_rfl) (fun _ _ _ h => h) (Or.inl ⟨by rfl, ?_⟩) ?_ ?_
  rotate_left
  ·intro w'
   go_simp
   with_reducible rfl
  rotate_left
  ·simp only [Act.put, List.setIfInBounds_toArray, List.set_cons_zero, List.set_cons_succ, i64_w, i32_w]
   rfl
  refine pure_ (i := 19) (N := some 71) (v := ?_) (a' := ?_) #[true, true, true, true, true, true, true, true, true, true, true, true, true, true, true, true, true, true, true, true, false, false] rfl rfl (by kernel_rfl) (fun _ _ _ h => h) (Or.inl ⟨by rfl, ?_⟩) ?_ ?_
  rotate_left
  ·intro w'
   go_simp
   with_reducible rfl
  rotate_left
  ·simp only [Act.put, List.setIfInBounds_toArray, List.set_cons_zero, List.set_cons_succ, i64_w, i32_w]
   rfl
  refine pure_ (i := 20) (N := some 72) (v := ?_) (a' := ?_) #[true, true, true, true, true, true, true, true, true, true, true, true, true, true, true, true, true, true, true, true, true, false] rfl rfl (by kernel_rfl) (fun _ _ _ h => h) (Or.inl ⟨by rfl, ?_⟩) ?_ ?_
  rotate_left
  ·intro w'
   go_simp
   with_reducible rfl
  rotate_left
  ·simp only [Act.put, List.setIfInBounds_toArray, List.set_cons_zero, List.set_cons_succ, i64_w, i32_w]
   rfl
  refine last_ (i := 21) (N := none) #[true, true, true, true, true, true, true, true, true, true, true, true, true, true, true, true, true, true, true, true, true, true] rfl rfl (by kernel_rfl) (by decide) (fun K hK => ?_)
  have hs0_ : w'.cell? ⟨g, 0, none⟩ = some (.int .i64 s0_0) := IsS42.cell_0 hHeld.st
  have hf0_ := IsS42.froz_0 hHeld.st
  refine skip_ (w1 := ?_) (by rfl) rfl ?_ ?_
  rotate_left
  ·go_simp
   rfl
  refine hK.out _ _ ?_
  refine done_ (by kernel_rfl) ?_
  clear hK K
  clear hs0_
  clear hf0_
  have h2 : IsS42 w0 (w'.setCell ⟨g, 0, none⟩ (.int .i64 (wrap64 q))) g (wrap64 q) s0_1 s0_2 true t := IsS42.set_0 hHeld.st _
  have hb2 := below_set hHeld.bel (IsS42.ge hHeld.st) (j := 0) (v := .int .i64 (wrap64 q))
  have hk2 := KeepBut.set_ hHeld.keep 0 (.int .i64 (wrap64 q))
  clear hHeld
  generalize w'.setCell ⟨g, 0, none⟩ (.int .i64 (wrap64 q)) = W5 at h2 hb2 hk2 ⊢
  try go_wp2
  have h3 : LK w0 w W5 g (wrap64 q) s0_1 s0_2 true t := ⟨h2, hb2, hk2⟩
  clear h2 hb2 hk2
  refine start_ (n := 17) (S := fun w' => LK w0 w w' g (wrap64 q) s0_1 s0_2 true t) (ds := [16]) #[false, false, false, false, false, false, false, false, false, false, false, false, false, false, false, false, false] (by kernel_rfl) rfl rfl h3.drew (fun hHeld => ?_)
  clear h3
  generalize W5.drew = W5 at hHeld ⊢
  refine pure_ (i := 0) (N := some 74) (v := ?_) (a' := ?_) #[true, false, false, false, false, false, false, false, false, false, false, false, false, false, false, false, false] rfl rfl (by kernel_rfl) (fun _ _ _ h => h) (Or.inl ⟨by rfl, ?_⟩) ?_ ?_
  rotate_left
  ·intro w'
   go_simp
   with_reducible rfl
  rotate_left
  ·simp only [Act.put, List.setIfInBounds_toArray, List.set_cons_zero, List.set_cons_succ, i64_w, i32_w]
   rfl
  refine pure_ (i := 1) (N := some 75) (v := ?_) (a' := ?_) #[true, true, false, false, false, false, false, false, false, false, false, false, false, false, false, false, false] rfl rfl (by kernel_rfl) (fun _ _ _ h => h) (Or.inl ⟨by rfl, ?_⟩) ?_ ?_
  rotate_left
  ·intro w'
   go_simp
   with_reducible rfl
  rotate_left
  ·simp only [Act.put, List.setIfInBounds_toArray, List.set_cons_zero, List.set_cons_succ, i64_w, i32_w]
   rfl
  refine pure_ (i := 2) (N := some 76) (v := ?_) (a' := ?_) #[true, true, true, false, false, false, false, false, false, false, false, false, false, false, false, false, false] rfl rfl (by kernel_rfl) (fun _ _ _ h => h) (Or.inl ⟨by rfl, ?_⟩) ?_ ?_
  rotate_left
  ·intro w'
   go_simp
   with_reducible rfl
  rotate_left
  ·simp only [Act.put, List.setIfInBounds_toArray, List.set_cons_zero, List.set_cons_succ, i64_w, i32_w]
   rfl
  refine pure_ (i := 3) (N := some 77) (v := ?_) (a' := ?_) #[true, true, true, true, false, false, false, false, false, false, false, false, false, false, false, false, false] rfl rfl (by kernel_rfl) (fun _ _ _ h => h) (Or.inl ⟨by rfl, ?_⟩) ?_ ?_
  rotate_left
  ·intro w'
   go_simp
   with_reducible rfl
  rotate_left
  ·simp only [Act.put, List.setIfInBounds_toArray, List.set_cons_zero, List.set_cons_succ, i64_w, i32_w]
   rfl
  refine take_ (i := 4) (N := some 78) (v := ?_) (a' := ?_) #[true, true, true, true, true, false, false, false, false, false, false, false, false, false, false, false, false] rfl rfl (by kernel_rfl) (fun _ _ _ h => h) (Or.inl ⟨by rfl, ?_⟩) hHeld ?_ ?_
  rotate_left
  ·intro w' hw'
   have cb0_ : w'.cell? ⟨g, 0, none⟩ = some (.int .i64 (wrap64 q)) := IsS42.cell_0 hw'.st
   go_simp
   with_reducible rfl
  rotate_left
  ·simp only [Act.put, List.setIfInBounds_toArray, List.set_cons_zero, List.set_cons_succ, i64_w, i32_w]
   rfl
  refine pure_ (i := 5) (N := some 79) (v := ?_) (a' := ?_) #[true, true, true, true, true, true, false, false, false, false, false, false, false, false, false, false, false] rfl rfl (by kernel_rfl) (fun _ _ _ h => h) (Or.inl ⟨by rfl, ?_⟩) ?_ ?_
  rotate_left
  ·intro w'
   go_simp
   with_reducible rfl
  rotate_left
  ·simp only [Act.put, List.setIfInBounds_toArray, List.set_cons_zero, List.set_cons_succ, i64_w, i32_w]
   rfl
  refine pure_ (i := 6) (N := some 80) (v := ?_) (a' := ?_) #[true, true, true, true, true, true, true, false, false, false, false, false, false, false, false, false, false] rfl rfl (by kernel_rfl) (fun _ _ _ h => h) (Or.inl ⟨by rfl, ?_⟩) ?_ ?_
  rotate_left
  ·intro w'
   go_simp
   with_reducible rfl
  rotate_left
  ·simp only [Act.put, List.setIfInBounds_toArray, List.set_cons_zero, List.set_cons_succ, i64_w, i32_w]
   rfl
  refine pure_ (i := 7) (N := some 81) (v := ?_) (a' := ?_) #[true, true, true, true, true, true, true, true, false, false, false, false, false, false, false, false, false] rfl rfl (by kernel_rfl) (fun _ _ _ h => h) (Or.inl ⟨by rfl, ?_⟩) ?_ ?_
  rotate_left
  ·intro w'
   go_simp
   with_reducible rfl
  rotate_left
  ·simp only [Act.put, List.setIfInBounds_toArray, List.set_cons_zero, List.set_cons_succ, i64_w, i32_w]
   rfl
  refine take_ (i := 8) (N := some 82) (v := ?_) (a' := ?_) #[true, true, true, true, true, true, true, true, true, false, false, false, false, false, false, false, false] rfl rfl (by kernel_rfl) (fun _ _ _ h => h) (Or.inl ⟨by rfl, ?_⟩) hHeld ?_ ?_
  rotate_left
  ·intro w' hw'
   have cb0_ : w'.cell? ⟨g, 1, none⟩ = some (.int .i64 s0_1) := IsS42.cell_1 hw'.st
   go_simp
   with_reducible rfl
  rotate_left
  ·simp only [Act.put, List.setIfInBounds_toArray, List.set_cons_zero, List.set_cons_succ, i64_w, i32_w]
   rfl
  refine pure_ (i := 9) (N := some 83) (v := ?_) (a' := ?_) #[true, true, true, true, true, true, true, true, true, true, false, false, false, false, false, false, false] rfl rfl (by kernel_rfl) (fun _ _ _ h => h) (Or.inl ⟨by rfl, ?_⟩) ?_ ?_
  rotate_left
  ·intro w'
   go_simp
   with_reducible rfl
  rotate_left
  ·simp only [Act.put, List.setIfInBounds_toArray, List.set_cons_zero, List.set_cons_succ, i64_w, i32_w]
   rfl
  refine pure_ (i := 10) (N := some 84) (v := ?_) (a' := ?_) #[true, true, true, true, true, true, true, true, true, true, true, false, false, false, false, false, false] rfl rfl (by kernel_rfl) (fun _ _ _ h => h) (Or.inl ⟨by rfl, ?_⟩) ?_ ?_
  rotate_left
  ·intro w'
   go_simp
   with_reducible rfl
  rotate_left
  ·simp only [Act.put, List.setIfInBounds_toArray, List.set_cons_zero, List.set_cons_succ, i64_w, i32_w]
   rfl
  refine pure_ (i := 11) (N := some 85) (v := ?_) (a' := ?_) #[true, true, true, true, true, true, true, true, true, true, true, true, false, false, false, false, false] rfl rfl (by kernel_rfl) (fun _ _ _ h => h) (Or.inl ⟨by rfl, ?_⟩) ?_ ?_
  rotate_left
  ·intro w'
   go_simp
   with_reducible rfl
  rotate_left
  ·simp only [Act.put, List.setIfInBounds_toArray, List.set_cons_zero, List.set_cons_succ, i64_w, i32_w]
   rfl
  refine take_ (i := 12) (N := some 86) (v := ?_) (a' := ?_) #[true, true, true, true, true, true, true, true, true, true, true, true, true, false, false, false, false] rfl rfl (by kernel_rfl) (fun _ _ _ h => h) (Or.inl ⟨by rfl, ?_⟩) hHeld ?_ ?_
  rotate_left
  ·intro w' hw'
   have cb0_ : w'.cell? ⟨g, 2, none⟩ = some (.int .i64 s0_2) := IsS42.cell_2 hw'.st
   go_simp
   with_reducible rfl
  rotate_left
  ·simp only [Act.put, List.setIfInBounds_toArray, List.set_cons_zero, List.set_cons_succ, i64_w, i32_w]
   rfl
  refine one_ (i := 13) (N := some 87) #[true, true, true, true, true, true, true, true, true, true, true, true, true, true, false, false, false] rfl rfl (by kernel_rfl) (by decide) (fun K hK => ?_)
  refine goes_ Tryd.func15 (by kernel_rfl) rfl #[.int .i64 (wrap64 q), .int .i64 s0_1, .int .i64 s0_2] (by rfl) rfl rfl (by simp only [List.map_toArray, List.map_cons, List.map_nil]; rfl) ?_
  with_reducible refine (sat_Clamp.calls (wrap64 q) s0_1 s0_2 t3 _ A3).mono ?_
  rintro e w' ⟨rfl, ⟨nd, rfl⟩⟩
  refine ⟨_, rfl, ?_⟩
  have hN_ := hHeld.drewN nd
  refine hK.out _ _ hN_ (fun hHeld => ?_)
  clear hK K hN_
  generalize W5.drewN nd = W5_ at hHeld ⊢
  refine norm_ (a' := ?_) ?_ ?_
  rotate_left
  ·show Act.put _ (some 87) _ = _
   simp only [Act.put, List.setIfInBounds_toArray, List.set_cons_zero, List.set_cons_succ, i64_w, i32_w]
   rfl
  refine pure_ (i := 14) (N := some 88) (v := ?_) (a' := ?_) #[true, true, true, true, true, true, true, true, true, true, true, true, true, true, true, false, false] rfl rfl (by kernel_rfl) (fun _ _ _ h => h) (Or.inl ⟨by rfl, ?_⟩) ?_ ?_
  rotate_left
  ·intro w'
   go_simp
   with_reducible rfl
  rotate_left
  ·simp only [Act.put, List.setIfInBounds_toArray, List.set_cons_zero, List.set_cons_succ, i64_w, i32_w]
   rfl
  refine pure_ (i := 15) (N := some 89) (v := ?_) (a' := ?_) #[true, true, true, true, true, true, true, true, true, true, true, true, true, true, true, true, false] rfl rfl (by kernel_rfl) (fun _ _ _ h => h) (Or.inl ⟨by rfl, ?_⟩) ?_ ?_
  rotate_left
  ·intro w'
   go_simp
   with_reducible rfl
  rotate_left
  ·simp only [Act.put, List.setIfInBounds_toArray, List.set_cons_zero, List.set_cons_succ, i64_w, i32_w]
   rfl
  refine last_ (i := 16) (N := none) #[true, true, true, true, true, true, true, true, true, true, true, true, true, true, true, true, true] rfl rfl (by kernel_rfl) (by decide) (fun K hK => ?_)
  have hs0_ : W5_.cell? ⟨g, 0, none⟩ = some (.int .i64 (wrap64 q)) := IsS42.cell_0 hHeld.st
  have hf0_ := IsS42.froz_0 hHeld.st
  refine skip_ (w1 := ?_) (by rfl) rfl ?_ ?_
  rotate_left
  ·go_simp
   rfl
  refine hK.out _ _ ?_
  refine done_ (by kernel_rfl) ?_
  clear hK K
  clear hs0_
  clear hf0_
  have h4 := IsS42.set_0 hHeld.st t3
  have hb4 := below_set hHeld.bel (IsS42.ge hHeld.st) (j := 0) (v := .int .i64 t3)
  have hk4 := KeepBut.set_ hHeld.keep 0 (.int .i64 t3)
  clear hHeld
  generalize W5_.setCell ⟨g, 0, none⟩ (.int .i64 t3) = W6 at h4 hb4 hk4 ⊢
  have hc0_ := IsS42.cell_0 h4
  go_wp2
  go_ret
  exact ⟨rfl, h4, hb4, hk4⟩
set_option maxHeartbeats 8000000 in
set_option maxRecDepth 100000 in
theorem lossy_upds (g : Nat) (s0_0 s0_1 s0_2 : Int) (s0_3 : Bool) (s0_4 a1 a2 t : Int) (w0 w : World) (hI : IsS42 w0 w g s0_0 s0_1 s0_2 s0_3 s0_4) (hB : Below w0.heap.size w0 w) (hG : GL w0) (At : sat_Clamp.f a2 0 1125899906842624 = some t) (c : s0_3 = true) (hc : decide (wrap64 (t - s0_4) < 200000) = true) :
  Calls Tryd.prog 9 #[.pointer (some ⟨g, 0, none⟩), .int .i64 a1, .int .i64 a2] w fun e w' => e = .returned (.int .i64 s0_0) ∧ IsS42 w0 w' g s0_0 s0_1 s0_2 true s0_4 ∧ Below w0.heap.size w0 w' ∧ KeepBut w w' g none := by
 have hpn : ∀ (a_ : Addr) (W_ : World), (Go.binOp .eql 24 (.pointer (some a_)) (.pointer none)).run Tryd.prog W_ = .ok (.bool false) W_ := fun _ _ => by kernel_rfl
 subst c
 go_enter Tryd.func9, Tryd.ntmps9
 go_wp2_with (first | ((with_reducible refine gate_dst (N := 14) rfl ?_); refine goesL_ (some 14) rfl rfl Tryd.func15 (by kernel_rfl) rfl #[.int .i64 a2, .int .i64 0, .int .i64 1125899906842624] rfl (by (try simp only [List.map_toArray, List.map_cons, List.map_nil]); first | done | rfl) ?_; (with_reducible refine (sat_Clamp.calls a2 0 1125899906842624 t _ At).mono ?_); rintro e w' ⟨rfl, ⟨nd, rfl⟩⟩; refine ⟨_, rfl, ?_⟩; have hI1 := IsS42.drewN hI nd; have hB1 := pw_below_drewN hB nd; have hK1 := keep_drewN (KeepBut.refl w g none) nd; generalize World.drewN w nd = W1 at hI1 hB1 hK1 ⊢; have hc0_ : W1.cell? ⟨g, 0, none⟩ = some (.int .i64 s0_0) := IsS42.cell_0 hI1; have hf0_ := IsS42.froz_0 hI1; have hc1_ : W1.cell? ⟨g, 1, none⟩ = some (.int .i64 s0_1) := IsS42.cell_1 hI1; have hf1_ := IsS42.froz_1 hI1; have hc2_ : W1.cell? ⟨g, 2, none⟩ = some (.int .i64 s0_2) := IsS42.cell_2 hI1; have hf2_ := IsS42.froz_2 hI1; have hc3_ : W1.cell? ⟨g, 3, none⟩ = some (.bool true) := IsS42.cell_3 hI1; have hf3_ := IsS42.froz_3 hI1; have hc4_ : W1.cell? ⟨g, 4, none⟩ = some (.int .i64 s0_4) := IsS42.cell_4 hI1; have hf4_ := IsS42.froz_4 hI1))
 go_ret
 exact ⟨rfl, hI1, hB1, hK1⟩
theorem clamp_le {a n : Int} (h : sat_Clamp.f a 0 256 = some n) : n ≤ 256 := by
 unfold sat_Clamp.f at h
 repeat' split at h
 all_goals (obtain rfl := Option.some.inj h; omega)
theorem lossy_Lossy_Update.calls (g : Nat) (s0_0 : Int) (s0_1 : Int) (s0_2 : Int) (s0_3 : Bool) (s0_4 : Int) (a1 : Int) (a2 : Int) (r1 : Int) (r2 : Int) (r3 : Int) (r4 : Int) (r5 : Bool) (r6 : Int) (w0 w : World) (hI : IsS42 w0 w g s0_0 s0_1 s0_2 s0_3 s0_4) (hB : Below w0.heap.size w0 w) (hG : GL w0) (h : lossy_Lossy_Update.f s0_0 s0_1 s0_2 s0_3 s0_4 a1 a2 = some (r1, r2, r3, r4, r5, r6)) :
  Calls Tryd.prog 9 #[.pointer (some ⟨g, 0, none⟩), .int .i64 a1, .int .i64 a2] w fun e w' => e = .returned (.int .i64 r1) ∧ IsS42 w0 w' g r2 r3 r4 r5 r6 ∧ Below w0.heap.size w0 w' ∧ KeepBut w w' g none := by
 unfold lossy_Lossy_Update.f at h
 obtain ⟨t, At, h⟩ := Option.bind_eq_some_iff.mp h
 by_cases e : s0_3 = true ∧ wrap64 (t - s0_4) < 200000
 ·rw [if_pos e] at h
  simp only [Option.some.injEq, Prod.mk.injEq] at h
  obtain ⟨rfl, rfl, rfl, rfl, rfl, rfl⟩ := h
  obtain ⟨e1, e2⟩ := e
  subst e1
  exact lossy_upds g _ _ _ true _ a1 a2 t w0 w hI hB hG At rfl (decide_eq_true e2)
 rw [if_neg e] at h
 have c : s0_3 = false ∨ s0_3 = true ∧ decide (wrap64 (t - s0_4) < 200000) = false := by
  cases s0_3
  ·exact .inl rfl
  ·exact .inr ⟨rfl, decide_eq_false fun h_ => e ⟨rfl, h_⟩⟩
 obtain ⟨n, An, h⟩ := Option.bind_eq_some_iff.mp h
 obtain ⟨q, Aq, h⟩ := Option.bind_eq_some_iff.mp h
 obtain ⟨t3, A3, h⟩ := Option.bind_eq_some_iff.mp h
 simp only [Option.some.injEq, Prod.mk.injEq] at h
 obtain ⟨rfl, rfl, rfl, rfl, rfl, rfl⟩ := h
 have hn := clamp_le An
 unfold lrow at Aq
 by_cases n1 : n ≤ 5
 ·rw [if_pos n1] at Aq
  obtain ⟨u, Au, Aq⟩ := Option.bind_eq_some_iff.mp Aq
  obtain rfl := Option.some.inj Aq
  exact lossy_upd0 g _ _ _ s0_3 s0_4 a1 a2 n t w0 w hI hB hG u Au t3 A3 At An n1 hn c
 rw [if_neg n1] at Aq
 by_cases n2 : n ≤ 26
 ·rw [if_pos n2] at Aq
  obtain ⟨u, Au, Aq⟩ := Option.bind_eq_some_iff.mp Aq
  obtain rfl := Option.some.inj Aq
  exact lossy_upd1 g _ _ _ s0_3 s0_4 a1 a2 n t w0 w hI hB hG u Au t3 A3 At An n1 n2 hn c
 rw [if_neg n2] at Aq
 obtain ⟨u, Au, Aq⟩ := Option.bind_eq_some_iff.mp Aq
 obtain rfl := Option.some.inj Aq
 exact lossy_upd2 g _ _ _ s0_3 s0_4 a1 a2 n t w0 w hI hB hG u Au t3 A3 At An n1 n2 hn c
set_option maxHeartbeats 8000000 in
set_option maxRecDepth 100000 in
theorem lossy_Lossy_Update.nilrecv.calls (a1 : Int) (a2 : Int) (r : Int) (w : World) (h : lossy_Lossy_Update.nilrecv.f a1 a2 = some r) :
  Calls Tryd.prog 9 #[.pointer none, .int .i64 a1, .int .i64 a2] w fun e w' => e = .returned (.int .i64 r) ∧ Below w.heap.size w w' := by
 have hnn_ : ∀ (W_ : World), (Go.binOp .eql 24 (.pointer none) (.pointer none)).run Tryd.prog W_ = .ok (.bool true) W_ := fun _ => by kernel_rfl
 obtain rfl := Option.some.inj h
 go_enter Tryd.func9, Tryd.ntmps9
 go_wp2
 go_ret
 exact ⟨rfl, by repeat (first | exact Below.refl _ _ | apply below_alloc)⟩
end Go.Proofs.YtkfkbebpcmmnfaaDoor.P
end

section
namespace Go.Proofs.YtkfkbebpcmmnfaaDoor.P
open Go.RowKit Go.Proofs.YtkfkbebpcmmnfaaDoorW.PrintWords Go.Proofs.YtkfkbebpcmmnfaaDoorW.PrintLast Go.Proofs.YtkfkbebpcmmnfaaDoorW.PrintMore
attribute [local go_sem] max2_int min2_int max_two min_two max_three min_three max_four min_four   -- for this text's walks alone
set_option linter.unusedVariables false
set_option linter.unusedSimpArgs false
def flywheellaw20_wakes.f  : Option (Bool) := if (lossy_New.made.f 1000000 1000 5000000).isSome = true then ((lossy_New.made.f 1000000 1000 5000000).bind fun bt119 => (if bt119.2.2.2.2.2 = 0 then ((lossy_Lossy_Update.f bt119.1 bt119.2.1 bt119.2.2.1 bt119.2.2.2.1 bt119.2.2.2.2.1 128 0).bind fun bt126 => (if bt126.1 = 750000 then ((lossy_Lossy_Update.f bt126.2.1 bt126.2.2.1 bt126.2.2.2.1 bt126.2.2.2.2.1 bt126.2.2.2.2.2 128 199999).bind fun bt132 => (if bt132.1 = 750000 then ((lossy_Lossy_Update.f bt132.2.1 bt132.2.2.1 bt132.2.2.2.1 bt132.2.2.2.2.1 bt132.2.2.2.2.2 0 200000).bind fun bt138 => (some (bt138.1 == 788500))) else (some false))) else (some false))) else (some false))) else ((lossy_New.nil.f 1000000 1000 5000000).bind fun t144 => (if t144 = 0 then ((lossy_Lossy_Update.nilrecv.f 128 0).bind fun t145 => (if t145 = 750000 then ((lossy_Lossy_Update.nilrecv.f 128 199999).bind fun t146 => (if t146 = 750000 then ((lossy_Lossy_Update.nilrecv.f 0 200000).bind fun t147 => (some (t147 == 788500))) else (some false))) else (some false))) else (some false)))
set_option maxHeartbeats 8000000 in
set_option maxRecDepth 100000 in
theorem flywheellaw20_wakes.calls  (r : Bool) (w : World) (hG : GL w) (h : flywheellaw20_wakes.f  = some r) :
  Calls Tryd.prog 8 #[] w fun e w' => e = .returned (.bool r) ∧ Below w.heap.size w w' := by
 have HTB := Aside0.mk hG
 clear hG
 have HB := Aside0.mk (Below.refl w.heap.size w)
 have H : (if (lossy_New.made.f 1000000 1000 5000000).isSome = true then ((lossy_New.made.f 1000000 1000 5000000).bind fun bt119 => (if bt119.2.2.2.2.2 = 0 then ((lossy_Lossy_Update.f bt119.1 bt119.2.1 bt119.2.2.1 bt119.2.2.2.1 bt119.2.2.2.2.1 128 0).bind fun bt126 => (if bt126.1 = 750000 then ((lossy_Lossy_Update.f bt126.2.1 bt126.2.2.1 bt126.2.2.2.1 bt126.2.2.2.2.1 bt126.2.2.2.2.2 128 199999).bind fun bt132 => (if bt132.1 = 750000 then ((lossy_Lossy_Update.f bt132.2.1 bt132.2.2.1 bt132.2.2.2.1 bt132.2.2.2.2.1 bt132.2.2.2.2.2 0 200000).bind fun bt138 => (some (bt138.1 == 788500))) else (some false))) else (some false))) else (some false))) else ((lossy_New.nil.f 1000000 1000 5000000).bind fun t144 => (if t144 = 0 then ((lossy_Lossy_Update.nilrecv.f 128 0).bind fun t145 => (if t145 = 750000 then ((lossy_Lossy_Update.nilrecv.f 128 199999).bind fun t146 => (if t146 = 750000 then ((lossy_Lossy_Update.nilrecv.f 0 200000).bind fun t147 => (some (t147 == 788500))) else (some false))) else (some false))) else (some false)))) = some r := h
 clear h
 by_cases c1 : (lossy_New.made.f 1000000 1000 5000000).isSome = true
 ·rw [if_pos c1] at H
  have c1b0 : (lossy_New.made.f 1000000 1000 5000000).isSome = true := c1
  clear c1
  replace H := Option.bind_eq_some_iff.mp H
  obtain ⟨⟨t119, t120, t121, t122, t123, t125⟩, A20, H⟩ := H
  replace H : (if t125 = 0 then ((lossy_Lossy_Update.f t119 t120 t121 t122 t123 128 0).bind fun bt126 => (if bt126.1 = 750000 then ((lossy_Lossy_Update.f bt126.2.1 bt126.2.2.1 bt126.2.2.2.1 bt126.2.2.2.2.1 bt126.2.2.2.2.2 128 199999).bind fun bt132 => (if bt132.1 = 750000 then ((lossy_Lossy_Update.f bt132.2.1 bt132.2.2.1 bt132.2.2.2.1 bt132.2.2.2.2.1 bt132.2.2.2.2.2 0 200000).bind fun bt138 => (some (bt138.1 == 788500))) else (some false))) else (some false))) else (some false)) = some r := H
  have A2 := Aside0.mk A20
  clear A20
  by_cases c3 : t125 = 0
  ·rw [if_pos c3] at H
   have c3b0 : (t125 == 0) = true := beq_iff_eq.mpr c3
   have c3b1 : (t125 != 0) = false := bne_eq_false_iff_eq.mpr c3
   clear c3
   replace H := Option.bind_eq_some_iff.mp H
   obtain ⟨⟨t126, t127, t128, t129, t130, t131⟩, A40, H⟩ := H
   replace H : (if t126 = 750000 then ((lossy_Lossy_Update.f t127 t128 t129 t130 t131 128 199999).bind fun bt132 => (if bt132.1 = 750000 then ((lossy_Lossy_Update.f bt132.2.1 bt132.2.2.1 bt132.2.2.2.1 bt132.2.2.2.2.1 bt132.2.2.2.2.2 0 200000).bind fun bt138 => (some (bt138.1 == 788500))) else (some false))) else (some false)) = some r := H
   have A4 := Aside0.mk A40
   clear A40
   by_cases c5 : t126 = 750000
   ·rw [if_pos c5] at H
    have c5b0 : (t126 == 750000) = true := beq_iff_eq.mpr c5
    have c5b1 : (t126 != 750000) = false := bne_eq_false_iff_eq.mpr c5
    clear c5
    replace H := Option.bind_eq_some_iff.mp H
    obtain ⟨⟨t132, t133, t134, t135, t136, t137⟩, A60, H⟩ := H
    replace H : (if t132 = 750000 then ((lossy_Lossy_Update.f t133 t134 t135 t136 t137 0 200000).bind fun bt138 => (some (bt138.1 == 788500))) else (some false)) = some r := H
    have A6 := Aside0.mk A60
    clear A60
    by_cases c7 : t132 = 750000
    ·rw [if_pos c7] at H
     have c7b0 : (t132 == 750000) = true := beq_iff_eq.mpr c7
     have c7b1 : (t132 != 750000) = false := bne_eq_false_iff_eq.mpr c7
     clear c7
     replace H := Option.bind_eq_some_iff.mp H
     obtain ⟨⟨t138, t139, t140, t141, t142, t143⟩, A80, H⟩ := H
     replace H : (some (t138 == 788500)) = some r := H
     have A8 := Aside0.mk A80
     clear A80
     obtain rfl := Option.some.inj H
     go_enter Tryd.func8, Tryd.ntmps8
     go_wp2_with (first | ((with_reducible refine gate_callee (f := 7) rfl ?_); refine goesL_ (some 4) rfl rfl Tryd.func7 (by kernel_rfl) rfl #[.int .i64 1000000, .int .i64 1000, .int .i64 5000000] rfl (by (try simp only [List.map_toArray, List.map_cons, List.map_nil]); first | done | rfl | (simp only [List.length_drop, List.length_take]; rfl)) ?_; (with_reducible refine (lossy_New.made.calls 1000000 1000 5000000 t119 t120 t121 t122 t123 t125 _ _ (Below.refl _ _) A2.out).mono ?_); rintro e w9 ⟨g124, rfl, hi, hb, hb2⟩; refine ⟨_, rfl, ?_⟩; have n0_ := Aside0.mk (below_step (by repeat (first | (with_reducible first | exact HB.out | apply below_alloc | apply pw_below_drewN | apply below_drew1) | exact HB.out)) hb2); have n1_ := Aside0.mk ((IsS42.rebase hi (below_size (by repeat (first | (with_reducible first | exact HB.out | apply below_alloc | apply pw_below_drewN | apply below_drew1) | exact HB.out))))); clear HB; have HB := n0_; have HI124 := n1_; clear n0_ n1_; (try clear hb); (try clear hb2); (try clear hk); (try clear hi)) | (go_at_call 9; (with_reducible refine (lossy_Lossy_Update.calls g124 t119 t120 t121 t122 t123 128 0 t126 t127 t128 t129 t130 t131 w _ ?side1 ?side2 ?sideG A4.out).mono ?_); (case sideG => first | exact HTB.out | exact GL.below HTB.out (by repeat (first | (with_reducible first | exact HB.out | apply below_alloc | apply pw_below_drewN | apply below_drew1) | exact HB.out))); (case side1 => repeat (first | (with_reducible first | exact HI124.out | apply IsS42.alloc | apply IsS42.drewN | apply IsS42.drew | apply IsS42.set_0 | apply IsS42.set_1 | apply IsS42.set_2 | apply IsS42.set_3 | apply IsS42.set_4) | exact HI124.out)); (case side2 => repeat (first | (with_reducible first | exact HB.out | apply below_alloc | apply pw_below_drewN | apply below_drew1 | refine below_set ?_ (IsS42.ge HI124.out)) | exact HB.out)); rintro e w10 ⟨rfl, hi, hb, hk⟩; have n0_ := Aside0.mk (hb); have n1_ := Aside0.mk (hi); clear HB; clear HI124; have HB := n0_; have HI124 := n1_; clear n0_ n1_; (try clear hb); (try clear hb2); (try clear hk); (try clear hi)) | (go_at_call 9; (with_reducible refine (lossy_Lossy_Update.calls g124 t127 t128 t129 t130 t131 128 199999 t132 t133 t134 t135 t136 t137 w _ ?side1 ?side2 ?sideG A6.out).mono ?_); (case sideG => first | exact HTB.out | exact GL.below HTB.out (by repeat (first | (with_reducible first | exact HB.out | apply below_alloc | apply pw_below_drewN | apply below_drew1) | exact HB.out))); (case side1 => repeat (first | (with_reducible first | exact HI124.out | apply IsS42.alloc | apply IsS42.drewN | apply IsS42.drew | apply IsS42.set_0 | apply IsS42.set_1 | apply IsS42.set_2 | apply IsS42.set_3 | apply IsS42.set_4) | exact HI124.out)); (case side2 => repeat (first | (with_reducible first | exact HB.out | apply below_alloc | apply pw_below_drewN | apply below_drew1 | refine below_set ?_ (IsS42.ge HI124.out)) | exact HB.out)); rintro e w11 ⟨rfl, hi, hb, hk⟩; have n0_ := Aside0.mk (hb); have n1_ := Aside0.mk (hi); clear HB; clear HI124; have HB := n0_; have HI124 := n1_; clear n0_ n1_; (try clear hb); (try clear hb2); (try clear hk); (try clear hi)) | (go_at_call 9; (with_reducible refine (lossy_Lossy_Update.calls g124 t133 t134 t135 t136 t137 0 200000 t138 t139 t140 t141 t142 t143 w _ ?side1 ?side2 ?sideG A8.out).mono ?_); (case sideG => first | exact HTB.out | exact GL.below HTB.out (by repeat (first | (with_reducible first | exact HB.out | apply below_alloc | apply pw_below_drewN | apply below_drew1) | exact HB.out))); (case side1 => repeat (first | (with_reducible first | exact HI124.out | apply IsS42.alloc | apply IsS42.drewN | apply IsS42.drew | apply IsS42.set_0 | apply IsS42.set_1 | apply IsS42.set_2 | apply IsS42.set_3 | apply IsS42.set_4) | exact HI124.out)); (case side2 => repeat (first | (with_reducible first | exact HB.out | apply below_alloc | apply pw_below_drewN | apply below_drew1 | refine below_set ?_ (IsS42.ge HI124.out)) | exact HB.out)); rintro e w12 ⟨rfl, hi, hb, hk⟩; have n0_ := Aside0.mk (hb); have n1_ := Aside0.mk (hi); clear HB; clear HI124; have HB := n0_; have HI124 := n1_; clear n0_ n1_; (try clear hb); (try clear hb2); (try clear hk); (try clear hi)))
     go_ret
     exact ⟨by first | rfl | (simp [errW_none, errW_some] <;> rfl) | (simp [*, errW_none, errW_some] <;> rfl), by repeat (first | (with_reducible first | exact HB.out | apply below_alloc | apply pw_below_drewN | apply below_drew1 | refine below_set ?_ (IsS42.ge HI124.out)) | exact HB.out)⟩
    ·rw [if_neg c7] at H
     have c7b0 : (t132 == 750000) = false := beq_eq_false_iff_ne.mpr c7
     have c7b1 : (t132 != 750000) = true := bne_iff_ne.mpr c7
     obtain rfl := Option.some.inj H
     go_enter Tryd.func8, Tryd.ntmps8
     go_wp2_with (first | ((with_reducible refine gate_callee (f := 7) rfl ?_); refine goesL_ (some 4) rfl rfl Tryd.func7 (by kernel_rfl) rfl #[.int .i64 1000000, .int .i64 1000, .int .i64 5000000] rfl (by (try simp only [List.map_toArray, List.map_cons, List.map_nil]); first | done | rfl | (simp only [List.length_drop, List.length_take]; rfl)) ?_; (with_reducible refine (lossy_New.made.calls 1000000 1000 5000000 t119 t120 t121 t122 t123 t125 _ _ (Below.refl _ _) A2.out).mono ?_); rintro e w13 ⟨g124, rfl, hi, hb, hb2⟩; refine ⟨_, rfl, ?_⟩; have n0_ := Aside0.mk (below_step (by repeat (first | (with_reducible first | exact HB.out | apply below_alloc | apply pw_below_drewN | apply below_drew1) | exact HB.out)) hb2); have n1_ := Aside0.mk ((IsS42.rebase hi (below_size (by repeat (first | (with_reducible first | exact HB.out | apply below_alloc | apply pw_below_drewN | apply below_drew1) | exact HB.out))))); clear HB; have HB := n0_; have HI124 := n1_; clear n0_ n1_; (try clear hb); (try clear hb2); (try clear hk); (try clear hi)) | (go_at_call 9; (with_reducible refine (lossy_Lossy_Update.calls g124 t119 t120 t121 t122 t123 128 0 t126 t127 t128 t129 t130 t131 w _ ?side1 ?side2 ?sideG A4.out).mono ?_); (case sideG => first | exact HTB.out | exact GL.below HTB.out (by repeat (first | (with_reducible first | exact HB.out | apply below_alloc | apply pw_below_drewN | apply below_drew1) | exact HB.out))); (case side1 => repeat (first | (with_reducible first | exact HI124.out | apply IsS42.alloc | apply IsS42.drewN | apply IsS42.drew | apply IsS42.set_0 | apply IsS42.set_1 | apply IsS42.set_2 | apply IsS42.set_3 | apply IsS42.set_4) | exact HI124.out)); (case side2 => repeat (first | (with_reducible first | exact HB.out | apply below_alloc | apply pw_below_drewN | apply below_drew1 | refine below_set ?_ (IsS42.ge HI124.out)) | exact HB.out)); rintro e w14 ⟨rfl, hi, hb, hk⟩; have n0_ := Aside0.mk (hb); have n1_ := Aside0.mk (hi); clear HB; clear HI124; have HB := n0_; have HI124 := n1_; clear n0_ n1_; (try clear hb); (try clear hb2); (try clear hk); (try clear hi)) | (go_at_call 9; (with_reducible refine (lossy_Lossy_Update.calls g124 t127 t128 t129 t130 t131 128 199999 t132 t133 t134 t135 t136 t137 w _ ?side1 ?side2 ?sideG A6.out).mono ?_); (case sideG => first | exact HTB.out | exact GL.below HTB.out (by repeat (first | (with_reducible first | exact HB.out | apply below_alloc | apply pw_below_drewN | apply below_drew1) | exact HB.out))); (case side1 => repeat (first | (with_reducible first | exact HI124.out | apply IsS42.alloc | apply IsS42.drewN | apply IsS42.drew | apply IsS42.set_0 | apply IsS42.set_1 | apply IsS42.set_2 | apply IsS42.set_3 | apply IsS42.set_4) | exact HI124.out)); (case side2 => repeat (first | (with_reducible first | exact HB.out | apply below_alloc | apply pw_below_drewN | apply below_drew1 | refine below_set ?_ (IsS42.ge HI124.out)) | exact HB.out)); rintro e w15 ⟨rfl, hi, hb, hk⟩; have n0_ := Aside0.mk (hb); have n1_ := Aside0.mk (hi); clear HB; clear HI124; have HB := n0_; have HI124 := n1_; clear n0_ n1_; (try clear hb); (try clear hb2); (try clear hk); (try clear hi)))
     go_ret
     exact ⟨by first | rfl | (simp [errW_none, errW_some] <;> rfl) | (simp [*, errW_none, errW_some] <;> rfl), by repeat (first | (with_reducible first | exact HB.out | apply below_alloc | apply pw_below_drewN | apply below_drew1 | refine below_set ?_ (IsS42.ge HI124.out)) | exact HB.out)⟩
   ·rw [if_neg c5] at H
    have c5b0 : (t126 == 750000) = false := beq_eq_false_iff_ne.mpr c5
    have c5b1 : (t126 != 750000) = true := bne_iff_ne.mpr c5
    obtain rfl := Option.some.inj H
    go_enter Tryd.func8, Tryd.ntmps8
    go_wp2_with (first | ((with_reducible refine gate_callee (f := 7) rfl ?_); refine goesL_ (some 4) rfl rfl Tryd.func7 (by kernel_rfl) rfl #[.int .i64 1000000, .int .i64 1000, .int .i64 5000000] rfl (by (try simp only [List.map_toArray, List.map_cons, List.map_nil]); first | done | rfl | (simp only [List.length_drop, List.length_take]; rfl)) ?_; (with_reducible refine (lossy_New.made.calls 1000000 1000 5000000 t119 t120 t121 t122 t123 t125 _ _ (Below.refl _ _) A2.out).mono ?_); rintro e w16 ⟨g124, rfl, hi, hb, hb2⟩; refine ⟨_, rfl, ?_⟩; have n0_ := Aside0.mk (below_step (by repeat (first | (with_reducible first | exact HB.out | apply below_alloc | apply pw_below_drewN | apply below_drew1) | exact HB.out)) hb2); have n1_ := Aside0.mk ((IsS42.rebase hi (below_size (by repeat (first | (with_reducible first | exact HB.out | apply below_alloc | apply pw_below_drewN | apply below_drew1) | exact HB.out))))); clear HB; have HB := n0_; have HI124 := n1_; clear n0_ n1_; (try clear hb); (try clear hb2); (try clear hk); (try clear hi)) | (go_at_call 9; (with_reducible refine (lossy_Lossy_Update.calls g124 t119 t120 t121 t122 t123 128 0 t126 t127 t128 t129 t130 t131 w _ ?side1 ?side2 ?sideG A4.out).mono ?_); (case sideG => first | exact HTB.out | exact GL.below HTB.out (by repeat (first | (with_reducible first | exact HB.out | apply below_alloc | apply pw_below_drewN | apply below_drew1) | exact HB.out))); (case side1 => repeat (first | (with_reducible first | exact HI124.out | apply IsS42.alloc | apply IsS42.drewN | apply IsS42.drew | apply IsS42.set_0 | apply IsS42.set_1 | apply IsS42.set_2 | apply IsS42.set_3 | apply IsS42.set_4) | exact HI124.out)); (case side2 => repeat (first | (with_reducible first | exact HB.out | apply below_alloc | apply pw_below_drewN | apply below_drew1 | refine below_set ?_ (IsS42.ge HI124.out)) | exact HB.out)); rintro e w17 ⟨rfl, hi, hb, hk⟩; have n0_ := Aside0.mk (hb); have n1_ := Aside0.mk (hi); clear HB; clear HI124; have HB := n0_; have HI124 := n1_; clear n0_ n1_; (try clear hb); (try clear hb2); (try clear hk); (try clear hi)))
    go_ret
    exact ⟨by first | rfl | (simp [errW_none, errW_some] <;> rfl) | (simp [*, errW_none, errW_some] <;> rfl), by repeat (first | (with_reducible first | exact HB.out | apply below_alloc | apply pw_below_drewN | apply below_drew1 | refine below_set ?_ (IsS42.ge HI124.out)) | exact HB.out)⟩
  ·rw [if_neg c3] at H
   have c3b0 : (t125 == 0) = false := beq_eq_false_iff_ne.mpr c3
   have c3b1 : (t125 != 0) = true := bne_iff_ne.mpr c3
   obtain rfl := Option.some.inj H
   go_enter Tryd.func8, Tryd.ntmps8
   go_wp2_with (first | ((with_reducible refine gate_callee (f := 7) rfl ?_); refine goesL_ (some 4) rfl rfl Tryd.func7 (by kernel_rfl) rfl #[.int .i64 1000000, .int .i64 1000, .int .i64 5000000] rfl (by (try simp only [List.map_toArray, List.map_cons, List.map_nil]); first | done | rfl | (simp only [List.length_drop, List.length_take]; rfl)) ?_; (with_reducible refine (lossy_New.made.calls 1000000 1000 5000000 t119 t120 t121 t122 t123 t125 _ _ (Below.refl _ _) A2.out).mono ?_); rintro e w18 ⟨g124, rfl, hi, hb, hb2⟩; refine ⟨_, rfl, ?_⟩; have n0_ := Aside0.mk (below_step (by repeat (first | (with_reducible first | exact HB.out | apply below_alloc | apply pw_below_drewN | apply below_drew1) | exact HB.out)) hb2); have n1_ := Aside0.mk ((IsS42.rebase hi (below_size (by repeat (first | (with_reducible first | exact HB.out | apply below_alloc | apply pw_below_drewN | apply below_drew1) | exact HB.out))))); clear HB; have HB := n0_; have HI124 := n1_; clear n0_ n1_; (try clear hb); (try clear hb2); (try clear hk); (try clear hi)))
   go_ret
   exact ⟨by first | rfl | (simp [errW_none, errW_some] <;> rfl) | (simp [*, errW_none, errW_some] <;> rfl), by repeat (first | (with_reducible first | exact HB.out | apply below_alloc | apply pw_below_drewN | apply below_drew1 | refine below_set ?_ (IsS42.ge HI124.out)) | exact HB.out)⟩
 ·rw [if_neg c1] at H
  have c1b0 : (lossy_New.made.f 1000000 1000 5000000).isSome = false := by simpa using c1
  clear c1
  replace H := Option.bind_eq_some_iff.mp H
  obtain ⟨t144, A190, H⟩ := H
  replace H : (if t144 = 0 then ((lossy_Lossy_Update.nilrecv.f 128 0).bind fun t145 => (if t145 = 750000 then ((lossy_Lossy_Update.nilrecv.f 128 199999).bind fun t146 => (if t146 = 750000 then ((lossy_Lossy_Update.nilrecv.f 0 200000).bind fun t147 => (some (t147 == 788500))) else (some false))) else (some false))) else (some false)) = some r := H
  have A19 := Aside0.mk A190
  clear A190
  by_cases c20 : t144 = 0
  ·rw [if_pos c20] at H
   have c20b0 : (t144 == 0) = true := beq_iff_eq.mpr c20
   have c20b1 : (t144 != 0) = false := bne_eq_false_iff_eq.mpr c20
   clear c20
   replace H := Option.bind_eq_some_iff.mp H
   obtain ⟨t145, A210, H⟩ := H
   replace H : (if t145 = 750000 then ((lossy_Lossy_Update.nilrecv.f 128 199999).bind fun t146 => (if t146 = 750000 then ((lossy_Lossy_Update.nilrecv.f 0 200000).bind fun t147 => (some (t147 == 788500))) else (some false))) else (some false)) = some r := H
   have A21 := Aside0.mk A210
   clear A210
   by_cases c22 : t145 = 750000
   ·rw [if_pos c22] at H
    have c22b0 : (t145 == 750000) = true := beq_iff_eq.mpr c22
    have c22b1 : (t145 != 750000) = false := bne_eq_false_iff_eq.mpr c22
    clear c22
    replace H := Option.bind_eq_some_iff.mp H
    obtain ⟨t146, A230, H⟩ := H
    replace H : (if t146 = 750000 then ((lossy_Lossy_Update.nilrecv.f 0 200000).bind fun t147 => (some (t147 == 788500))) else (some false)) = some r := H
    have A23 := Aside0.mk A230
    clear A230
    by_cases c24 : t146 = 750000
    ·rw [if_pos c24] at H
     have c24b0 : (t146 == 750000) = true := beq_iff_eq.mpr c24
     have c24b1 : (t146 != 750000) = false := bne_eq_false_iff_eq.mpr c24
     clear c24
     replace H := Option.bind_eq_some_iff.mp H
     obtain ⟨t147, A250, H⟩ := H
     replace H : (some (t147 == 788500)) = some r := H
     have A25 := Aside0.mk A250
     clear A250
     obtain rfl := Option.some.inj H
     go_enter Tryd.func8, Tryd.ntmps8
     go_wp2_with (first | ((with_reducible refine gate_callee (f := 7) rfl ?_); refine goesL_ (some 4) rfl rfl Tryd.func7 (by kernel_rfl) rfl #[.int .i64 1000000, .int .i64 1000, .int .i64 5000000] rfl (by (try simp only [List.map_toArray, List.map_cons, List.map_nil]); first | done | rfl | (simp only [List.length_drop, List.length_take]; rfl)) ?_; (with_reducible refine (lossy_New.nil.calls 1000000 1000 5000000 t144 _ A19.out).mono ?_); rintro e w26 ⟨rfl, hb⟩; refine ⟨_, rfl, ?_⟩; have n0_ := Aside0.mk (below_step (by repeat (first | (with_reducible first | exact HB.out | apply below_alloc | apply pw_below_drewN | apply below_drew1) | exact HB.out)) hb); clear HB; have HB := n0_; clear n0_; (try clear hb); (try clear hb2); (try clear hk); (try clear hi)) | (go_at_call 9; (with_reducible refine (lossy_Lossy_Update.nilrecv.calls  128 0 t145 _ A21.out).mono ?_); rintro e w27 ⟨rfl, hb⟩; have n0_ := Aside0.mk (below_step (by repeat (first | (with_reducible first | exact HB.out | apply below_alloc | apply pw_below_drewN | apply below_drew1) | exact HB.out)) hb); clear HB; have HB := n0_; clear n0_; (try clear hb); (try clear hb2); (try clear hk); (try clear hi)) | (go_at_call 9; (with_reducible refine (lossy_Lossy_Update.nilrecv.calls  128 199999 t146 _ A23.out).mono ?_); rintro e w28 ⟨rfl, hb⟩; have n0_ := Aside0.mk (below_step (by repeat (first | (with_reducible first | exact HB.out | apply below_alloc | apply pw_below_drewN | apply below_drew1) | exact HB.out)) hb); clear HB; have HB := n0_; clear n0_; (try clear hb); (try clear hb2); (try clear hk); (try clear hi)) | (go_at_call 9; (with_reducible refine (lossy_Lossy_Update.nilrecv.calls  0 200000 t147 _ A25.out).mono ?_); rintro e w29 ⟨rfl, hb⟩; have n0_ := Aside0.mk (below_step (by repeat (first | (with_reducible first | exact HB.out | apply below_alloc | apply pw_below_drewN | apply below_drew1) | exact HB.out)) hb); clear HB; have HB := n0_; clear n0_; (try clear hb); (try clear hb2); (try clear hk); (try clear hi)))
     go_ret
     exact ⟨by first | rfl | (simp [errW_none, errW_some] <;> rfl) | (simp [*, errW_none, errW_some] <;> rfl), by repeat (first | (with_reducible first | exact HB.out | apply below_alloc | apply pw_below_drewN | apply below_drew1) | exact HB.out)⟩
    ·rw [if_neg c24] at H
     have c24b0 : (t146 == 750000) = false := beq_eq_false_iff_ne.mpr c24
     have c24b1 : (t146 != 750000) = true := bne_iff_ne.mpr c24
     obtain rfl := Option.some.inj H
     go_enter Tryd.func8, Tryd.ntmps8
     go_wp2_with (first | ((with_reducible refine gate_callee (f := 7) rfl ?_); refine goesL_ (some 4) rfl rfl Tryd.func7 (by kernel_rfl) rfl #[.int .i64 1000000, .int .i64 1000, .int .i64 5000000] rfl (by (try simp only [List.map_toArray, List.map_cons, List.map_nil]); first | done | rfl | (simp only [List.length_drop, List.length_take]; rfl)) ?_; (with_reducible refine (lossy_New.nil.calls 1000000 1000 5000000 t144 _ A19.out).mono ?_); rintro e w30 ⟨rfl, hb⟩; refine ⟨_, rfl, ?_⟩; have n0_ := Aside0.mk (below_step (by repeat (first | (with_reducible first | exact HB.out | apply below_alloc | apply pw_below_drewN | apply below_drew1) | exact HB.out)) hb); clear HB; have HB := n0_; clear n0_; (try clear hb); (try clear hb2); (try clear hk); (try clear hi)) | (go_at_call 9; (with_reducible refine (lossy_Lossy_Update.nilrecv.calls  128 0 t145 _ A21.out).mono ?_); rintro e w31 ⟨rfl, hb⟩; have n0_ := Aside0.mk (below_step (by repeat (first | (with_reducible first | exact HB.out | apply below_alloc | apply pw_below_drewN | apply below_drew1) | exact HB.out)) hb); clear HB; have HB := n0_; clear n0_; (try clear hb); (try clear hb2); (try clear hk); (try clear hi)) | (go_at_call 9; (with_reducible refine (lossy_Lossy_Update.nilrecv.calls  128 199999 t146 _ A23.out).mono ?_); rintro e w32 ⟨rfl, hb⟩; have n0_ := Aside0.mk (below_step (by repeat (first | (with_reducible first | exact HB.out | apply below_alloc | apply pw_below_drewN | apply below_drew1) | exact HB.out)) hb); clear HB; have HB := n0_; clear n0_; (try clear hb); (try clear hb2); (try clear hk); (try clear hi)))
     go_ret
     exact ⟨by first | rfl | (simp [errW_none, errW_some] <;> rfl) | (simp [*, errW_none, errW_some] <;> rfl), by repeat (first | (with_reducible first | exact HB.out | apply below_alloc | apply pw_below_drewN | apply below_drew1) | exact HB.out)⟩
   ·rw [if_neg c22] at H
    have c22b0 : (t145 == 750000) = false := beq_eq_false_iff_ne.mpr c22
    have c22b1 : (t145 != 750000) = true := bne_iff_ne.mpr c22
    obtain rfl := Option.some.inj H
    go_enter Tryd.func8, Tryd.ntmps8
    go_wp2_with (first | ((with_reducible refine gate_callee (f := 7) rfl ?_); refine goesL_ (some 4) rfl rfl Tryd.func7 (by kernel_rfl) rfl #[.int .i64 1000000, .int .i64 1000, .int .i64 5000000] rfl (by (try simp only [List.map_toArray, List.map_cons, List.map_nil]); first | done | rfl | (simp only [List.length_drop, List.length_take]; rfl)) ?_; (with_reducible refine (lossy_New.nil.calls 1000000 1000 5000000 t144 _ A19.out).mono ?_); rintro e w33 ⟨rfl, hb⟩; refine ⟨_, rfl, ?_⟩; have n0_ := Aside0.mk (below_step (by repeat (first | (with_reducible first | exact HB.out | apply below_alloc | apply pw_below_drewN | apply below_drew1) | exact HB.out)) hb); clear HB; have HB := n0_; clear n0_; (try clear hb); (try clear hb2); (try clear hk); (try clear hi)) | (go_at_call 9; (with_reducible refine (lossy_Lossy_Update.nilrecv.calls  128 0 t145 _ A21.out).mono ?_); rintro e w34 ⟨rfl, hb⟩; have n0_ := Aside0.mk (below_step (by repeat (first | (with_reducible first | exact HB.out | apply below_alloc | apply pw_below_drewN | apply below_drew1) | exact HB.out)) hb); clear HB; have HB := n0_; clear n0_; (try clear hb); (try clear hb2); (try clear hk); (try clear hi)))
    go_ret
    exact ⟨by first | rfl | (simp [errW_none, errW_some] <;> rfl) | (simp [*, errW_none, errW_some] <;> rfl), by repeat (first | (with_reducible first | exact HB.out | apply below_alloc | apply pw_below_drewN | apply below_drew1) | exact HB.out)⟩
  ·rw [if_neg c20] at H
   have c20b0 : (t144 == 0) = false := beq_eq_false_iff_ne.mpr c20
   have c20b1 : (t144 != 0) = true := bne_iff_ne.mpr c20
   obtain rfl := Option.some.inj H
   go_enter Tryd.func8, Tryd.ntmps8
   go_wp2_with (first | ((with_reducible refine gate_callee (f := 7) rfl ?_); refine goesL_ (some 4) rfl rfl Tryd.func7 (by kernel_rfl) rfl #[.int .i64 1000000, .int .i64 1000, .int .i64 5000000] rfl (by (try simp only [List.map_toArray, List.map_cons, List.map_nil]); first | done | rfl | (simp only [List.length_drop, List.length_take]; rfl)) ?_; (with_reducible refine (lossy_New.nil.calls 1000000 1000 5000000 t144 _ A19.out).mono ?_); rintro e w35 ⟨rfl, hb⟩; refine ⟨_, rfl, ?_⟩; have n0_ := Aside0.mk (below_step (by repeat (first | (with_reducible first | exact HB.out | apply below_alloc | apply pw_below_drewN | apply below_drew1) | exact HB.out)) hb); clear HB; have HB := n0_; clear n0_; (try clear hb); (try clear hb2); (try clear hk); (try clear hi)))
   go_ret
   exact ⟨by first | rfl | (simp [errW_none, errW_some] <;> rfl) | (simp [*, errW_none, errW_some] <;> rfl), by repeat (first | (with_reducible first | exact HB.out | apply below_alloc | apply pw_below_drewN | apply below_drew1) | exact HB.out)⟩
def flywheelref19_Rates.f (a0 : Int) (a1 : Int) (a2 : Int) : Option (Bool) := if a1 ≥ 1 then (if a1 ≤ a0 then (if a0 ≤ a2 then (some (decide (a2 ≤ 17179869184))) else (some false)) else (some false)) else (some false)
set_option maxHeartbeats 8000000 in
set_option maxRecDepth 100000 in
theorem flywheelref19_Rates.calls (a0 : Int) (a1 : Int) (a2 : Int) (r : Bool) (w : World) (h : flywheelref19_Rates.f a0 a1 a2 = some r) :
  Calls Tryd.prog 14 #[.int .i64 a0, .int .i64 a1, .int .i64 a2] w fun e w' => e = .returned (.bool r) ∧ Drawn0 w w' := by
 have H : (if a1 ≥ 1 then (if a1 ≤ a0 then (if a0 ≤ a2 then (some (decide (a2 ≤ 17179869184))) else (some false)) else (some false)) else (some false)) = some r := h
 clear h
 by_cases c4 : a1 ≥ 1
 ·rw [if_pos c4] at H
  have c4b0 : decide (1 ≤ a1) = true := decide_eq_true c4
  clear c4
  by_cases c5 : a1 ≤ a0
  ·rw [if_pos c5] at H
   have c5b0 : decide (a1 ≤ a0) = true := decide_eq_true c5
   clear c5
   by_cases c6 : a0 ≤ a2
   ·rw [if_pos c6] at H
    have c6b0 : decide (a0 ≤ a2) = true := decide_eq_true c6
    clear c6
    obtain rfl := Option.some.inj H
    go_enter Tryd.func14, Tryd.ntmps14
    go_wp2
    go_ret
    exact ⟨by first | rfl | (simp; done) | (simp [*]; done), by repeat (first | exact Drawn0.refl _ | apply Drawn0.step)⟩
   ·rw [if_neg c6] at H
    have c6b0 : decide (a0 ≤ a2) = false := decide_eq_false c6
    clear c6
    obtain rfl := Option.some.inj H
    go_enter Tryd.func14, Tryd.ntmps14
    go_wp2
    go_ret
    exact ⟨by first | rfl | (simp; done) | (simp [*]; done), by repeat (first | exact Drawn0.refl _ | apply Drawn0.step)⟩
  ·rw [if_neg c5] at H
   have c5b0 : decide (a1 ≤ a0) = false := decide_eq_false c5
   clear c5
   obtain rfl := Option.some.inj H
   go_enter Tryd.func14, Tryd.ntmps14
   go_wp2
   go_ret
   exact ⟨by first | rfl | (simp; done) | (simp [*]; done), by repeat (first | exact Drawn0.refl _ | apply Drawn0.step)⟩
 ·rw [if_neg c4] at H
  have c4b0 : decide (1 ≤ a1) = false := decide_eq_false c4
  clear c4
  obtain rfl := Option.some.inj H
  go_enter Tryd.func14, Tryd.ntmps14
  go_wp2
  go_ret
  exact ⟨by first | rfl | (simp; done) | (simp [*]; done), by repeat (first | exact Drawn0.refl _ | apply Drawn0.step)⟩
def flywheelref20_New.made.f (a0 : Int) (a1 : Int) (a2 : Int) : Option (Int × Int × Int × Bool × Int × Int) := (flywheelref19_Rates.f a0 a1 a2).bind fun t185 => (if t185 = true then (some (a0, a1, a2, false, 0, 0)) else (none))
def flywheelref20_New.nil.f (a0 : Int) (a1 : Int) (a2 : Int) : Option (Int) := (flywheelref19_Rates.f a0 a1 a2).bind fun t187 => (if t187 = true then (none) else (some 1))
end Go.Proofs.YtkfkbebpcmmnfaaDoor.P
end

section
namespace Go.Proofs.YtkfkbebpcmmnfaaDoor.P
open Go.RowKit Go.Proofs.YtkfkbebpcmmnfaaDoorW.PrintWords Go.Proofs.YtkfkbebpcmmnfaaDoorW.PrintLast Go.Proofs.YtkfkbebpcmmnfaaDoorW.PrintMore
attribute [local go_sem] max2_int min2_int max_two min_two max_three min_three max_four min_four   -- for this text's walks alone
set_option linter.unusedVariables false
set_option linter.unusedSimpArgs false
end Go.Proofs.YtkfkbebpcmmnfaaDoor.P
end

section
namespace Go.Proofs.YtkfkbebpcmmnfaaDoor.P
open Go.RowKit Go.Proofs.YtkfkbebpcmmnfaaDoorW.PrintWords Go.Proofs.YtkfkbebpcmmnfaaDoorW.PrintLast Go.Proofs.YtkfkbebpcmmnfaaDoorW.PrintMore
attribute [local go_sem] max2_int min2_int max_two min_two max_three min_three max_four min_four   -- for this text's walks alone
set_option linter.unusedVariables false
set_option linter.unusedSimpArgs false
end Go.Proofs.YtkfkbebpcmmnfaaDoor.P
end

section
namespace Go.Proofs.YtkfkbebpcmmnfaaDoor.P
open Go.RowKit Go.Proofs.YtkfkbebpcmmnfaaDoorW.PrintWords Go.Proofs.YtkfkbebpcmmnfaaDoorW.PrintLast Go.Proofs.YtkfkbebpcmmnfaaDoorW.PrintMore
attribute [local go_sem] max2_int min2_int max_two min_two max_three min_three max_four min_four   -- for this text's walks alone
set_option linter.unusedVariables false
set_option linter.unusedSimpArgs false
end Go.Proofs.YtkfkbebpcmmnfaaDoor.P
end

section
namespace Go.Proofs.YtkfkbebpcmmnfaaDoor.P
open Go.RowKit Go.Proofs.YtkfkbebpcmmnfaaDoorW.PrintWords Go.Proofs.YtkfkbebpcmmnfaaDoorW.PrintLast Go.Proofs.YtkfkbebpcmmnfaaDoorW.PrintMore
attribute [local go_sem] max2_int min2_int max_two min_two max_three min_three max_four min_four   -- for this text's walks alone
set_option linter.unusedVariables false
set_option linter.unusedSimpArgs false
def lossy_Lossy_Rate.f (s0_0 : Int) (s0_1 : Int) (s0_2 : Int) (s0_3 : Bool) (s0_4 : Int) : Option (Int × Int × Int × Int × Bool × Int) := some (s0_0, s0_0, s0_1, s0_2, s0_3, s0_4)
set_option maxHeartbeats 8000000 in
set_option maxRecDepth 100000 in
theorem lossy_Lossy_Rate.calls (g : Nat) (s0_0 : Int) (s0_1 : Int) (s0_2 : Int) (s0_3 : Bool) (s0_4 : Int) (r1 : Int) (r2 : Int) (r3 : Int) (r4 : Int) (r5 : Bool) (r6 : Int) (w0 w : World) (hI : IsS42 w0 w g s0_0 s0_1 s0_2 s0_3 s0_4) (hB : Below w0.heap.size w0 w) (h : lossy_Lossy_Rate.f s0_0 s0_1 s0_2 s0_3 s0_4 = some (r1, r2, r3, r4, r5, r6)) :
  Calls Tryd.prog 12 #[.pointer (some ⟨g, 0, none⟩)] w fun e w' => e = .returned (.int .i64 r1) ∧ IsS42 w0 w' g r2 r3 r4 r5 r6 ∧ Below w0.heap.size w0 w' ∧ KeepBut w w' g none := by
 have hpn24_eql : ∀ (a_ : Addr) (W_ : World), (Go.binOp .eql 24 (.pointer (some a_)) (.pointer none)).run Tryd.prog W_ = .ok (.bool false) W_ := fun _ _ => by kernel_rfl
 have hnn24_eql : ∀ (W_ : World), (Go.binOp .eql 24 (.pointer none) (.pointer none)).run Tryd.prog W_ = .ok (.bool true) W_ := fun _ => by kernel_rfl
 have HI0 := Aside0.mk hI
 have HK := Aside0.mk (KeepBut.refl w g none)
 have HL := Aside0.mk hB.size
 clear hI
 have HW0 := Aside0.mk hB.size
 have HB := Aside0.mk hB
 clear hB
 have H : (some (s0_0, s0_0, s0_1, s0_2, s0_3, s0_4)) = some (r1, r2, r3, r4, r5, r6) := h
 clear h
 simp only [Option.some.injEq, Prod.mk.injEq] at H
 obtain ⟨rfl, rfl, rfl, rfl, rfl, rfl⟩ := H
 obtain ⟨HGz2, hgz2⟩ := HI0.out
 have hcz2_0 := cellS42_0 HGz2
 have hcz2_1 := cellS42_1 HGz2
 have hcz2_2 := cellS42_2 HGz2
 have hcz2_3 := cellS42_3 HGz2
 have hcz2_4 := cellS42_4 HGz2
 have hfz2_0 := blk_frozen HGz2 0
 have hfz2_1 := blk_frozen HGz2 1
 have hfz2_2 := blk_frozen HGz2 2
 have hfz2_3 := blk_frozen HGz2 3
 have hfz2_4 := blk_frozen HGz2 4
 clear HGz2 hgz2
 go_enter Tryd.func12, Tryd.ntmps12
 go_wp2
 go_ret
 exact ⟨by first | rfl | (simp [errW_none, errW_some] <;> rfl) | (simp [*, errW_none, errW_some] <;> rfl), by repeat (first | (with_reducible first | exact HI0.out | apply IsS42.alloc | apply IsS42.drewN | apply IsS42.drew | apply IsS42.set_0 | apply IsS42.set_1 | apply IsS42.set_2 | apply IsS42.set_3 | apply IsS42.set_4) | exact HI0.out), by repeat (first | (with_reducible first | exact HB.out | apply below_alloc | apply pw_below_drewN | apply below_drew1 | refine below_set ?_ (IsS42.ge HI0.out)) | exact HB.out), by repeat (first | (with_reducible first | exact HK.out | apply KeepBut.set_ | apply keep_drewN | apply keep_drew | apply keep_alloc) | exact HK.out)⟩
end Go.Proofs.YtkfkbebpcmmnfaaDoor.P
end

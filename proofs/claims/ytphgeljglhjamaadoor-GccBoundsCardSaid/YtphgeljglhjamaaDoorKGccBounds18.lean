-- PUT TOGETHER by a program of this session: of the claim's texts, what is used
import Derived.Test.YtphgeljglhjamaaDoorKGccBounds13
import Derived.Test.YtphgeljglhjamaaDoorKGccBounds14
import Derived.Test.YtphgeljglhjamaaDoorKGccBounds15
import Derived.Test.YtphgeljglhjamaaDoorKGccBounds16
import Derived.Test.YtphgeljglhjamaaDoorKGccBounds17
import Derived.Test.YtphgeljglhjamaaDoorRows
import Derived.Test.YtphgeljglhjamaaDoorTie
import Derived.Test.YtphgeljglhjamaaDoorCards
import Derived.LaidMore
import Derived.Stop.Joined
import Derived.SevenTiedAt
import Derived.WalkKit
import Derived.ProofKit
import Derived.OpenShut
import Derived.ShutString
import Derived.ChangeOld
import Derived.Below
import Derived.SizedLaws
import Derived.Lib.SmallJoins
section
namespace Go.Proofs.YtphgeljglhjamaaDoor.gccBounds
open Go.ChangeShapes Go.WideShapes Go.ChangeAt Go.RowKit Go.Proofs.YtphgeljglhjamaaDoorW.PrintWords Go.Proofs.YtphgeljglhjamaaDoor.P
open Go.ChangeMaps (open_string shut_string)
set_option linter.unusedVariables false
theorem own : ownKnob Tryd.prog.godebug = none := by kernel_rfl
theorem laidOut : laidOutB Tryd.prog = true := by kernel_rfl
theorem slice_cells {H : Type} {enc : TypeId × Value → H} {P : Program} {w : World} {base : Nat} {spare : Nat → Bool} {held : Bool} {n : Nat} {t e : TypeId} {v : Value} {y : DataW H × List MemPlace} (hu : P.underlying t = some (.slice e)) (h : DataW.trod enc P w base spare held n t [v] = some y) : ∃ A m c, v = .slice A m c := by
  rcases Go.Deep.open_slice hu h with ⟨h0, _⟩ | ⟨a, len, cap, m, n', D, Pl, h0, _⟩
  · simp only [List.cons.injEq, and_true] at h0; exact ⟨none, 0, 0, h0⟩
  · simp only [List.cons.injEq, and_true] at h0; exact ⟨some a, len, cap, h0⟩
set_option maxRecDepth 100000 in
theorem cells_T23 {H : Type} {enc : TypeId × Value → H} {w : World} {base : Nat} {spare : Nat → Bool} {held : Bool} {fuel : Nat} {cs : List Value} {x : DataW H × List MemPlace} (h : DataW.trod enc Tryd.prog w base spare held fuel 23 cs = some x) :
    ∃ (a0 : Int) (a1 : Int) (a2 : Int), cs = [.int .i64 a0, .int .i64 a1, .int .i64 a2] ∧ (Lit.int .i64 a0).wf = true ∧ (Lit.int .i64 a1).wf = true ∧ (Lit.int .i64 a2).wf = true := by
  obtain ⟨xs, n, _, hx, hl, hlen, hg⟩ := DataW.trod_struct Tryd.underlying23 h
  have hl' : cs.length = 3 := hl.trans (by kernel_rfl)
  match cs, hl' with
  | [v0, v1, v2], _ =>
    match xs, hlen with
    | [y0, y1, y2], _ =>
      have g0 : DataW.trod enc Tryd.prog w base spare held n 2 (([v0, v1, v2].drop 0).take (Tryd.prog.cellsOf 2)) = some y0 := hg 0 _ rfl
      rw [show Tryd.prog.cellsOf 2 = 1 from by kernel_rfl] at g0
      have k0 : DataW.trod enc Tryd.prog w base spare held n 2 [v0] = some y0 := g0
      have g1 : DataW.trod enc Tryd.prog w base spare held n 2 (([v0, v1, v2].drop 1).take (Tryd.prog.cellsOf 2)) = some y1 := hg 1 _ rfl
      rw [show Tryd.prog.cellsOf 2 = 1 from by kernel_rfl] at g1
      have k1 : DataW.trod enc Tryd.prog w base spare held n 2 [v1] = some y1 := g1
      have g2 : DataW.trod enc Tryd.prog w base spare held n 2 (([v0, v1, v2].drop 2).take (Tryd.prog.cellsOf 2)) = some y2 := hg 2 _ rfl
      rw [show Tryd.prog.cellsOf 2 = 1 from by kernel_rfl] at g2
      have k2 : DataW.trod enc Tryd.prog w base spare held n 2 [v2] = some y2 := g2
      obtain ⟨b0, e0, _, w0⟩ := DataW.trod_int Tryd.underlying2 k0
      simp only [List.cons.injEq, and_true] at e0
      subst e0
      obtain ⟨b1, e1, _, w1⟩ := DataW.trod_int Tryd.underlying2 k1
      simp only [List.cons.injEq, and_true] at e1
      subst e1
      obtain ⟨b2, e2, _, w2⟩ := DataW.trod_int Tryd.underlying2 k2
      simp only [List.cons.injEq, and_true] at e2
      subst e2
      exact ⟨b0, b1, b2, rfl, w0, w1, w2⟩
set_option maxRecDepth 100000 in
theorem cells_T39 {H : Type} {enc : TypeId × Value → H} {w : World} {base : Nat} {spare : Nat → Bool} {held : Bool} {fuel : Nat} {cs : List Value} {x : DataW H × List MemPlace} (h : DataW.trod enc Tryd.prog w base spare held fuel 39 cs = some x) :
    ∃ (a0 : Int) (a1 : Int) (a2 : Int), cs = [.int .i64 a0, .int .i64 a1, .int .i64 a2] ∧ (Lit.int .i64 a0).wf = true ∧ (Lit.int .i64 a1).wf = true ∧ (Lit.int .i64 a2).wf = true := by
  obtain ⟨xs, n, _, hx, hl, hlen, hg⟩ := DataW.trod_struct Tryd.underlying39 h
  have hl' : cs.length = 3 := hl.trans (by kernel_rfl)
  match cs, hl' with
  | [v0, v1, v2], _ =>
    match xs, hlen with
    | [y0, y1, y2], _ =>
      have g0 : DataW.trod enc Tryd.prog w base spare held n 2 (([v0, v1, v2].drop 0).take (Tryd.prog.cellsOf 2)) = some y0 := hg 0 _ rfl
      rw [show Tryd.prog.cellsOf 2 = 1 from by kernel_rfl] at g0
      have k0 : DataW.trod enc Tryd.prog w base spare held n 2 [v0] = some y0 := g0
      have g1 : DataW.trod enc Tryd.prog w base spare held n 3 (([v0, v1, v2].drop 1).take (Tryd.prog.cellsOf 3)) = some y1 := hg 1 _ rfl
      rw [show Tryd.prog.cellsOf 3 = 1 from by kernel_rfl] at g1
      have k1 : DataW.trod enc Tryd.prog w base spare held n 3 [v1] = some y1 := g1
      have g2 : DataW.trod enc Tryd.prog w base spare held n 2 (([v0, v1, v2].drop 2).take (Tryd.prog.cellsOf 2)) = some y2 := hg 2 _ rfl
      rw [show Tryd.prog.cellsOf 2 = 1 from by kernel_rfl] at g2
      have k2 : DataW.trod enc Tryd.prog w base spare held n 2 [v2] = some y2 := g2
      obtain ⟨b0, e0, _, w0⟩ := DataW.trod_int Tryd.underlying2 k0
      simp only [List.cons.injEq, and_true] at e0
      subst e0
      obtain ⟨b1, e1, _, w1⟩ := DataW.trod_int Tryd.underlying3 k1
      simp only [List.cons.injEq, and_true] at e1
      subst e1
      obtain ⟨b2, e2, _, w2⟩ := DataW.trod_int Tryd.underlying2 k2
      simp only [List.cons.injEq, and_true] at e2
      subst e2
      exact ⟨b0, b1, b2, rfl, w0, w1, w2⟩
set_option maxRecDepth 100000 in
theorem cells_T41 {H : Type} {enc : TypeId × Value → H} {w : World} {base : Nat} {spare : Nat → Bool} {held : Bool} {fuel : Nat} {cs : List Value} {x : DataW H × List MemPlace} (h : DataW.trod enc Tryd.prog w base spare held fuel 41 cs = some x) :
    ∃ (a0 : Int) (a1 : Int) (a2 : Int) (a3 : Int) (a4 : Bool) (a5 : Bool), cs = [.int .i64 a0, .int .i64 a1, .int .i64 a2, .int .i64 a3, .bool a4, .bool a5] ∧ (Lit.int .i64 a0).wf = true ∧ (Lit.int .i64 a1).wf = true ∧ (Lit.int .i64 a2).wf = true ∧ (Lit.int .i64 a3).wf = true := by
  obtain ⟨xs, n, _, hx, hl, hlen, hg⟩ := DataW.trod_struct Tryd.underlying41 h
  have hl' : cs.length = 6 := hl.trans (by kernel_rfl)
  match cs, hl' with
  | [v0, v1, v2, v3, v4, v5], _ =>
    match xs, hlen with
    | [y0, y1, y2, y3], _ =>
      have g0 : DataW.trod enc Tryd.prog w base spare held n 39 (([v0, v1, v2, v3, v4, v5].drop 0).take (Tryd.prog.cellsOf 39)) = some y0 := hg 0 _ rfl
      rw [show Tryd.prog.cellsOf 39 = 3 from by kernel_rfl] at g0
      have k0 : DataW.trod enc Tryd.prog w base spare held n 39 [v0, v1, v2] = some y0 := g0
      have g1 : DataW.trod enc Tryd.prog w base spare held n 2 (([v0, v1, v2, v3, v4, v5].drop 3).take (Tryd.prog.cellsOf 2)) = some y1 := hg 1 _ rfl
      rw [show Tryd.prog.cellsOf 2 = 1 from by kernel_rfl] at g1
      have k1 : DataW.trod enc Tryd.prog w base spare held n 2 [v3] = some y1 := g1
      have g2 : DataW.trod enc Tryd.prog w base spare held n 4 (([v0, v1, v2, v3, v4, v5].drop 4).take (Tryd.prog.cellsOf 4)) = some y2 := hg 2 _ rfl
      rw [show Tryd.prog.cellsOf 4 = 1 from by kernel_rfl] at g2
      have k2 : DataW.trod enc Tryd.prog w base spare held n 4 [v4] = some y2 := g2
      have g3 : DataW.trod enc Tryd.prog w base spare held n 4 (([v0, v1, v2, v3, v4, v5].drop 5).take (Tryd.prog.cellsOf 4)) = some y3 := hg 3 _ rfl
      rw [show Tryd.prog.cellsOf 4 = 1 from by kernel_rfl] at g3
      have k3 : DataW.trod enc Tryd.prog w base spare held n 4 [v5] = some y3 := g3
      obtain ⟨b0_0, b0_1, b0_2, e0, w0_0, w0_1, w0_2⟩ := cells_T39 k0
      simp only [List.cons.injEq, and_true] at e0
      obtain ⟨rfl, rfl, rfl⟩ := e0
      obtain ⟨b1, e1, _, w1⟩ := DataW.trod_int Tryd.underlying2 k1
      simp only [List.cons.injEq, and_true] at e1
      subst e1
      obtain ⟨b2, e2, _⟩ := DataW.trod_bool Tryd.underlying4 k2
      simp only [List.cons.injEq, and_true] at e2
      subst e2
      obtain ⟨b3, e3, _⟩ := DataW.trod_bool Tryd.underlying4 k3
      simp only [List.cons.injEq, and_true] at e3
      subst e3
      exact ⟨b0_0, b0_1, b0_2, b1, b2, b3, rfl, w0_0, w0_1, w0_2, w1⟩
set_option maxRecDepth 100000 in
theorem cells_T33 {H : Type} {enc : TypeId × Value → H} {w : World} {base : Nat} {spare : Nat → Bool} {held : Bool} {fuel : Nat} {cs : List Value} {x : DataW H × List MemPlace} (h : DataW.trod enc Tryd.prog w base spare held fuel 33 cs = some x) :
    ∃ (A0 : Option Addr) (n0 c0 : Nat) (a1 : Int) (a2 : Int) (a3 : Int), cs = [.slice A0 n0 c0, .int .i64 a1, .int .i64 a2, .int .i64 a3] ∧ (∃ m d p, DataW.trod enc Tryd.prog w base spare held m 31 [.slice A0 n0 c0] = some (d, p)) ∧ (Lit.int .i64 a1).wf = true ∧ (Lit.int .i64 a2).wf = true ∧ (Lit.int .i64 a3).wf = true := by
  obtain ⟨xs, n, _, hx, hl, hlen, hg⟩ := DataW.trod_struct Tryd.underlying33 h
  have hl' : cs.length = 4 := hl.trans (by kernel_rfl)
  match cs, hl' with
  | [v0, v1, v2, v3], _ =>
    match xs, hlen with
    | [y0, y1, y2, y3], _ =>
      have g0 : DataW.trod enc Tryd.prog w base spare held n 31 (([v0, v1, v2, v3].drop 0).take (Tryd.prog.cellsOf 31)) = some y0 := hg 0 _ rfl
      rw [show Tryd.prog.cellsOf 31 = 1 from by kernel_rfl] at g0
      have k0 : DataW.trod enc Tryd.prog w base spare held n 31 [v0] = some y0 := g0
      have g1 : DataW.trod enc Tryd.prog w base spare held n 3 (([v0, v1, v2, v3].drop 1).take (Tryd.prog.cellsOf 3)) = some y1 := hg 1 _ rfl
      rw [show Tryd.prog.cellsOf 3 = 1 from by kernel_rfl] at g1
      have k1 : DataW.trod enc Tryd.prog w base spare held n 3 [v1] = some y1 := g1
      have g2 : DataW.trod enc Tryd.prog w base spare held n 2 (([v0, v1, v2, v3].drop 2).take (Tryd.prog.cellsOf 2)) = some y2 := hg 2 _ rfl
      rw [show Tryd.prog.cellsOf 2 = 1 from by kernel_rfl] at g2
      have k2 : DataW.trod enc Tryd.prog w base spare held n 2 [v2] = some y2 := g2
      have g3 : DataW.trod enc Tryd.prog w base spare held n 2 (([v0, v1, v2, v3].drop 3).take (Tryd.prog.cellsOf 2)) = some y3 := hg 3 _ rfl
      rw [show Tryd.prog.cellsOf 2 = 1 from by kernel_rfl] at g3
      have k3 : DataW.trod enc Tryd.prog w base spare held n 2 [v3] = some y3 := g3
      obtain ⟨A0, m0, c0, e0⟩ := slice_cells Tryd.underlying31 k0
      subst e0
      obtain ⟨b1, e1, _, w1⟩ := DataW.trod_int Tryd.underlying3 k1
      simp only [List.cons.injEq, and_true] at e1
      subst e1
      obtain ⟨b2, e2, _, w2⟩ := DataW.trod_int Tryd.underlying2 k2
      simp only [List.cons.injEq, and_true] at e2
      subst e2
      obtain ⟨b3, e3, _, w3⟩ := DataW.trod_int Tryd.underlying2 k3
      simp only [List.cons.injEq, and_true] at e3
      subst e3
      exact ⟨A0, m0, c0, b1, b2, b3, rfl, ⟨n, y0.1, y0.2, k0⟩, w1, w2, w3⟩
set_option maxRecDepth 100000 in
theorem lifted (os : Os) (started : os.Started) (H : Type) (enc : TypeId × Value → H) :
    ReturnsInHanded {} Tryd.checked os 3 .any (fun w args => (Rows.gccBoundsSpec.pre enc Tryd.prog Tryd.f3 [] false w args ∧ laidMetH Tryd.prog laidG w) ∧ sizedMet enc Tryd.prog Tryd.f3 (OpenSpec.ofChange Rows.gccBoundsSpec) false w args) (Rows.gccBoundsSpec.post enc Tryd.prog Tryd.f3 false true false false) := by
  refine returnsInHanded_of_change_and (C := Tryd.checked) (X := fun w _ => laidMetH Tryd.prog laidG w) (fun _ _ _ hh h => h.of_heap hh) own started (by kernel_rfl) Tryd.func3
    (ChangeSpec.witness_shaped (enc := enc) (C := Tryd.checked) (os := os) (X := fun w _ => laidMetH Tryd.prog laidG w) false (World.doorLaid Tryd.prog 400 os) #[.agg #[.int .i64 0, .int .i64 0, .int .i64 0], .slice none 0 0] 8 rfl (World.shaped_of_RefB (by kernel_rfl) (by kernel_rfl)) (by kernel_rfl) (by kernel_rfl) (by kernel_rfl) (door_met os _)) ?_
  intro W base args ds gs before hval0 hW hcnd hsz0 hL _
  have hsz : (DataW.weightsEach Tryd.prog (Tryd.f3.params.toList ++ Rows.gccBoundsSpec.plain.varTypes Tryd.prog) (ds ++ gs)).all (· ≤ reachBytes) = true := hsz0
  have hval : ∀ (j : Nat) t v, Tryd.f3.params[j]? = some t → args[j]? = some v → Value.okWide Tryd.prog W .any base t v := hval0
  have hW' := hW
  obtain ⟨p, q, hA0, hV, rfl, hfz, hnd⟩ := hW
  have hA : DataW.TrodAll enc Tryd.prog W 0 (fun _ => true) true Tryd.f3.params.toList args.toList ds p := hA0
  rw [Tryd.params3] at hA hval hsz
  obtain ⟨v0, vs0, d0, ds0, p0, q0, hargs, rfl, rfl, h0, r0⟩ := trodAll_cons hA
  obtain ⟨v1, vs1, d1, ds1, p1, q1, rfl, rfl, rfl, h1, r1⟩ := trodAll_cons r0
  obtain ⟨rfl, rfl, rfl⟩ := trodAll_nil r1
  obtain rfl : args = #[v0, v1] := by cases args; simp_all
  obtain ⟨rfl, rfl⟩ := trodVars_none hV
  have k0 := h0
  have lt0 : ∀ x ∈ p0, x.block < W.heap.size := by obtain ⟨m, hm⟩ := k0; exact DataW.trod_lt m _ _ _ hm
  obtain ⟨cs0, rfl, hsz0⟩ := okWide_struct Tryd.underlying23 (hval 0 23 v0 rfl rfl)
  obtain ⟨fu0, hf0⟩ := h0
  obtain ⟨a0_0, a0_1, a0_2, he0, w0_0, w0_1, w0_2⟩ := cells_T23 hf0
  obtain rfl : cs0 = #[.int .i64 a0_0, .int .i64 a0_1, .int .i64 a0_2] := by simpa [Value.cells] using congrArg List.toArray he0
  have k1 := h1
  have lt1 : ∀ x ∈ p1, x.block < W.heap.size := by obtain ⟨m, hm⟩ := k1; exact DataW.trod_lt m _ _ _ hm
  obtain ⟨A1, len1, c1, rfl⟩ := okWide_slice Tryd.underlying24 (hval 1 24 v1 rfl rfl)
  have y1 : len1 * 48 ≤ 140737488351232 := sized_rows hsz (j := 1) (t := 24) rfl rfl Tryd.underlying24 (by kernel_rfl) h1
  obtain ⟨l1, rfl, hl1, hcm1, hw1, hcell1⟩ := open_rowsR (fun y cs => Kd.K k33 W y cs) (fun y => (∀ z ∈ y.f0, (Lit.int .i64 z.f0.f0).wf = true ∧ (Lit.int .i64 z.f0.f1).wf = true ∧ (Lit.int .i64 z.f0.f2).wf = true ∧ (Lit.int .i64 z.f1).wf = true) ∧ (Lit.int .i64 y.f1).wf = true ∧ (Lit.int .i64 y.f2).wf = true ∧ (Lit.int .i64 y.f3).wf = true) 4 Tryd.underlying24 (by kernel_rfl) (fun fuel cs x hh => by
      obtain ⟨A0_, n0_, c0_, b1_, b2_, b3_, he, ⟨m0_, d0_, p0_, t0_⟩, u1_, u2_, u3_⟩ := cells_T33 hh
      obtain ⟨l0_, rfl, h0_, cm0_, w0_, cell0_⟩ := open_rows (fun y : S41 => [.int .i64 y.f0.f0, .int .i64 y.f0.f1, .int .i64 y.f0.f2, .int .i64 y.f1, .bool y.f2, .bool y.f3]) (fun y => (Lit.int .i64 y.f0.f0).wf = true ∧ (Lit.int .i64 y.f0.f1).wf = true ∧ (Lit.int .i64 y.f0.f2).wf = true ∧ (Lit.int .i64 y.f1).wf = true) 6 Tryd.underlying31 (by kernel_rfl) (fun fuel cs x hh => by
          obtain ⟨b0, b1, b2, b3, b4, b5, he, u0, u1, u2, u3⟩ := cells_T41 hh
          exact ⟨(⟨(⟨b0, b1, b2⟩ : S39), b3, b4, b5⟩ : S41), he, ⟨u0, u1, u2, u3⟩⟩) (show DataW.Trod enc Tryd.prog W 0 (fun _ => true) true 31 (.slice A0_ n0_ c0_) d0_ p0_ from ⟨m0_, t0_⟩)
      have r0_ : Kd.C k41 W A0_ l0_.length l0_ := ⟨rfl, by have := cm0_; unfold maxLen at this; omega, fun hz => by
        obtain ⟨ad, e, hc⟩ := cell0_ hz
        exact ⟨ad, e, fun j p hj => ⟨_, rfl, k41_mk W p, fun i u hu => hc j p hj i u hu⟩⟩⟩
      exact ⟨(⟨l0_, b1_, b2_, b3_⟩ : S33), by rw [he]; exact k33_mk W (⟨l0_, b1_, b2_, b3_⟩ : S33) h0_ r0_, w0_, u1_, u2_, u3_⟩) h1
  have hr1 : Kd.C k33 W A1 l1.length l1 := ⟨rfl, by have := hcm1; unfold maxLen at this; omega, fun hz => by
    obtain ⟨ad, e, hc⟩ := hcell1 hz
    exact ⟨ad, e, fun j p hj => by
      obtain ⟨c, hR, hcc⟩ := hc j p hj
      exact ⟨c, Kd.K_len _ hR, hR, hcc⟩⟩⟩
  have hm1 : l1.length ≤ maxLen := Nat.le_trans hl1 hcm1
  clear hA0 hval0 hsz0 hsz
  refine (flywheellaw22_GccBounds.walk Pure.GccBounds a0_0 a0_1 a0_2 A1 c1 l1 W w0_0 w0_1 w0_2 hm1 y1 hw1 hr1 hl1 (of_laid hL)).mono fun e W' ⟨he, bel⟩ => ?_
  subst he
  exact ⟨_, rfl, _, _, _, [], _, [], hW', trodAll_mk1 (shut_bool Tryd.underlying4 _), (trodAll_cons_mk (Below.trod laidOut (by kernel_rfl) (of_decide_eq_true (by kernel_rfl)) k0 bel lt0) (trodAll_cons_mk (Below.trod laidOut (by kernel_rfl) (of_decide_eq_true (by kernel_rfl)) k1 bel lt1) trodAll_mk0)), rfl, bel.frame _, fun h => by cases h⟩
theorem over : Rows.gccBoundsRow.holds Tryd.pinned (OpenSpec.ofChange Rows.gccBoundsSpec) :=
  OpenClaim.holds_of_wide 3 Tryd.f3 rfl rfl rfl rfl rfl rfl rfl ⟨rfl, rfl, rfl, rfl, rfl⟩ rfl rfl rfl rfl rfl (by kernel_rfl) Tryd.func3 (by kernel_rfl)
    (of_decide_eq_true (by kernel_rfl)) (by unfold Func.isWrapper; first | (rw [if_pos (by decide +kernel)]; kernel_rfl) | (rw [if_neg (by decide +kernel)]; exact ⟨rfl, rfl⟩))
    (fun os started H enc _ => lifted os started H enc)
theorem proved : Rows.GccBoundsSaid := over
#print axioms proved
end Go.Proofs.YtphgeljglhjamaaDoor.gccBounds
namespace Go.Proofs.YtphgeljglhjamaaDoor
theorem gccBounds_holds : Rows.GccBoundsSaid := gccBounds.proved
open Go in
set_option maxRecDepth 100000 in
theorem gccBoundsCard_holds : Rows.GccBoundsCardSaid :=
  Claim7.holds_tied_plain_at .later [] [.data] true (true, "90cf0004c7ac8b2c7a9fd2806908a7448ebd62ce71c80ca3cc7493d2c7f9661e") false
    gccBounds_holds (fun _ h => by cases h) (by kernel_rfl) (fun _ h => by cases h) gccBounds_row_tie rfl ⟨rfl, rfl⟩ (by kernel_rfl) rfl
    (fun f fn hf hfn => by
      obtain rfl : f = 3 := Option.some.inj ((show Tryd.prog.funcNamed "flywheel/flywheellaw22.GccBounds" = some 3 by kernel_rfl).symm.trans hf) |>.symm
      obtain rfl : fn = Tryd.f3 := (Option.some.inj (Tryd.func3.symm.trans hfn)).symm
      exact ⟨by kernel_rfl, fun j t ht => by
        rw [Tryd.params3] at ht
        have hm : t ∈ [23, 24] := by simpa using Array.mem_of_getElem? ht
        have hall : ([23, 24].all fun u => !Tryd.prog.wantsStandIn u) = true := by kernel_rfl
        exact (show Tryd.prog.wantsStandIn t = false by simpa using List.all_eq_true.1 hall t hm)⟩)
    (by kernel_rfl)
end Go.Proofs.YtphgeljglhjamaaDoor
end

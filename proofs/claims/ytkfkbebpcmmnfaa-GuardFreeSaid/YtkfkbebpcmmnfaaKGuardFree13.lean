-- PUT TOGETHER by a program of this session: of the claim's texts, what is used
import Derived.Test.YtkfkbebpcmmnfaaKGuardFree9
import Derived.Test.YtkfkbebpcmmnfaaKGuardFree10
import Derived.Test.YtkfkbebpcmmnfaaKGuardFree11
import Derived.Test.YtkfkbebpcmmnfaaKGuardFree12
import Derived.Test.YtkfkbebpcmmnfaaRows
import Derived.WalkKit
import Derived.ProofKit
import Derived.OpenShut
import Derived.ShutString
import Derived.ChangeOld
import Derived.Below
import Derived.SizedLaws
import Derived.Lib.SmallJoins
section
namespace Go.Proofs.Ytkfkbebpcmmnfaa.guardFree
open Go.ChangeShapes Go.WideShapes Go.ChangeAt Go.RowKit Go.Proofs.YtkfkbebpcmmnfaaW.PrintWords Go.Proofs.Ytkfkbebpcmmnfaa.P
open Go.ChangeMaps (open_string shut_string)
set_option linter.unusedVariables false
theorem own : ownKnob Try.prog.godebug = none := by kernel_rfl
theorem laidOut : laidOutB Try.prog = true := by kernel_rfl
theorem slice_cells {H : Type} {enc : TypeId × Value → H} {P : Program} {w : World} {base : Nat} {spare : Nat → Bool} {held : Bool} {n : Nat} {t e : TypeId} {v : Value} {y : DataW H × List MemPlace} (hu : P.underlying t = some (.slice e)) (h : DataW.trod enc P w base spare held n t [v] = some y) : ∃ A m c, v = .slice A m c := by
  rcases Go.Deep.open_slice hu h with ⟨h0, _⟩ | ⟨a, len, cap, m, n', D, Pl, h0, _⟩
  · simp only [List.cons.injEq, and_true] at h0; exact ⟨none, 0, 0, h0⟩
  · simp only [List.cons.injEq, and_true] at h0; exact ⟨some a, len, cap, h0⟩
set_option maxRecDepth 100000 in
theorem cells_T27 {H : Type} {enc : TypeId × Value → H} {w : World} {base : Nat} {spare : Nat → Bool} {held : Bool} {fuel : Nat} {cs : List Value} {x : DataW H × List MemPlace} (h : DataW.trod enc Try.prog w base spare held fuel 27 cs = some x) :
    ∃ (a0 : Int) (a1 : Int) (a2 : Int) (a3 : Int) (a4 : Int) (a5 : Int) (a6 : Int) (a7 : Int) (a8 : Int) (a9 : Int) (a10 : Int) (A11 : Option Addr) (n11 c11 : Nat) (a12 : Int), cs = [.int .i64 a0, .int .i64 a1, .int .i64 a2, .int .i64 a3, .int .i64 a4, .int .i64 a5, .int .i64 a6, .int .i64 a7, .int .i64 a8, .int .i64 a9, .int .i64 a10, .slice A11 n11 c11, .int .i64 a12] ∧ (Lit.int .i64 a0).wf = true ∧ (Lit.int .i64 a1).wf = true ∧ (Lit.int .i64 a2).wf = true ∧ (Lit.int .i64 a3).wf = true ∧ (Lit.int .i64 a4).wf = true ∧ (Lit.int .i64 a5).wf = true ∧ (Lit.int .i64 a6).wf = true ∧ (Lit.int .i64 a7).wf = true ∧ (Lit.int .i64 a8).wf = true ∧ (Lit.int .i64 a9).wf = true ∧ (Lit.int .i64 a10).wf = true ∧ (∃ m d p, DataW.trod enc Try.prog w base spare held m 25 [.slice A11 n11 c11] = some (d, p)) ∧ (Lit.int .i64 a12).wf = true := by
  obtain ⟨xs, n, _, hx, hl, hlen, hg⟩ := DataW.trod_struct Try.underlying27 h
  have hl' : cs.length = 13 := hl.trans (by kernel_rfl)
  match cs, hl' with
  | [v0, v1, v2, v3, v4, v5, v6, v7, v8, v9, v10, v11, v12], _ =>
    match xs, hlen with
    | [y0, y1, y2, y3, y4, y5, y6, y7, y8, y9, y10, y11, y12], _ =>
      have g0 : DataW.trod enc Try.prog w base spare held n 3 (([v0, v1, v2, v3, v4, v5, v6, v7, v8, v9, v10, v11, v12].drop 0).take (Try.prog.cellsOf 3)) = some y0 := hg 0 _ rfl
      rw [show Try.prog.cellsOf 3 = 1 from by kernel_rfl] at g0
      have k0 : DataW.trod enc Try.prog w base spare held n 3 [v0] = some y0 := g0
      have g1 : DataW.trod enc Try.prog w base spare held n 2 (([v0, v1, v2, v3, v4, v5, v6, v7, v8, v9, v10, v11, v12].drop 1).take (Try.prog.cellsOf 2)) = some y1 := hg 1 _ rfl
      rw [show Try.prog.cellsOf 2 = 1 from by kernel_rfl] at g1
      have k1 : DataW.trod enc Try.prog w base spare held n 2 [v1] = some y1 := g1
      have g2 : DataW.trod enc Try.prog w base spare held n 2 (([v0, v1, v2, v3, v4, v5, v6, v7, v8, v9, v10, v11, v12].drop 2).take (Try.prog.cellsOf 2)) = some y2 := hg 2 _ rfl
      rw [show Try.prog.cellsOf 2 = 1 from by kernel_rfl] at g2
      have k2 : DataW.trod enc Try.prog w base spare held n 2 [v2] = some y2 := g2
      have g3 : DataW.trod enc Try.prog w base spare held n 2 (([v0, v1, v2, v3, v4, v5, v6, v7, v8, v9, v10, v11, v12].drop 3).take (Try.prog.cellsOf 2)) = some y3 := hg 3 _ rfl
      rw [show Try.prog.cellsOf 2 = 1 from by kernel_rfl] at g3
      have k3 : DataW.trod enc Try.prog w base spare held n 2 [v3] = some y3 := g3
      have g4 : DataW.trod enc Try.prog w base spare held n 2 (([v0, v1, v2, v3, v4, v5, v6, v7, v8, v9, v10, v11, v12].drop 4).take (Try.prog.cellsOf 2)) = some y4 := hg 4 _ rfl
      rw [show Try.prog.cellsOf 2 = 1 from by kernel_rfl] at g4
      have k4 : DataW.trod enc Try.prog w base spare held n 2 [v4] = some y4 := g4
      have g5 : DataW.trod enc Try.prog w base spare held n 2 (([v0, v1, v2, v3, v4, v5, v6, v7, v8, v9, v10, v11, v12].drop 5).take (Try.prog.cellsOf 2)) = some y5 := hg 5 _ rfl
      rw [show Try.prog.cellsOf 2 = 1 from by kernel_rfl] at g5
      have k5 : DataW.trod enc Try.prog w base spare held n 2 [v5] = some y5 := g5
      have g6 : DataW.trod enc Try.prog w base spare held n 2 (([v0, v1, v2, v3, v4, v5, v6, v7, v8, v9, v10, v11, v12].drop 6).take (Try.prog.cellsOf 2)) = some y6 := hg 6 _ rfl
      rw [show Try.prog.cellsOf 2 = 1 from by kernel_rfl] at g6
      have k6 : DataW.trod enc Try.prog w base spare held n 2 [v6] = some y6 := g6
      have g7 : DataW.trod enc Try.prog w base spare held n 2 (([v0, v1, v2, v3, v4, v5, v6, v7, v8, v9, v10, v11, v12].drop 7).take (Try.prog.cellsOf 2)) = some y7 := hg 7 _ rfl
      rw [show Try.prog.cellsOf 2 = 1 from by kernel_rfl] at g7
      have k7 : DataW.trod enc Try.prog w base spare held n 2 [v7] = some y7 := g7
      have g8 : DataW.trod enc Try.prog w base spare held n 2 (([v0, v1, v2, v3, v4, v5, v6, v7, v8, v9, v10, v11, v12].drop 8).take (Try.prog.cellsOf 2)) = some y8 := hg 8 _ rfl
      rw [show Try.prog.cellsOf 2 = 1 from by kernel_rfl] at g8
      have k8 : DataW.trod enc Try.prog w base spare held n 2 [v8] = some y8 := g8
      have g9 : DataW.trod enc Try.prog w base spare held n 2 (([v0, v1, v2, v3, v4, v5, v6, v7, v8, v9, v10, v11, v12].drop 9).take (Try.prog.cellsOf 2)) = some y9 := hg 9 _ rfl
      rw [show Try.prog.cellsOf 2 = 1 from by kernel_rfl] at g9
      have k9 : DataW.trod enc Try.prog w base spare held n 2 [v9] = some y9 := g9
      have g10 : DataW.trod enc Try.prog w base spare held n 3 (([v0, v1, v2, v3, v4, v5, v6, v7, v8, v9, v10, v11, v12].drop 10).take (Try.prog.cellsOf 3)) = some y10 := hg 10 _ rfl
      rw [show Try.prog.cellsOf 3 = 1 from by kernel_rfl] at g10
      have k10 : DataW.trod enc Try.prog w base spare held n 3 [v10] = some y10 := g10
      have g11 : DataW.trod enc Try.prog w base spare held n 25 (([v0, v1, v2, v3, v4, v5, v6, v7, v8, v9, v10, v11, v12].drop 11).take (Try.prog.cellsOf 25)) = some y11 := hg 11 _ rfl
      rw [show Try.prog.cellsOf 25 = 1 from by kernel_rfl] at g11
      have k11 : DataW.trod enc Try.prog w base spare held n 25 [v11] = some y11 := g11
      have g12 : DataW.trod enc Try.prog w base spare held n 3 (([v0, v1, v2, v3, v4, v5, v6, v7, v8, v9, v10, v11, v12].drop 12).take (Try.prog.cellsOf 3)) = some y12 := hg 12 _ rfl
      rw [show Try.prog.cellsOf 3 = 1 from by kernel_rfl] at g12
      have k12 : DataW.trod enc Try.prog w base spare held n 3 [v12] = some y12 := g12
      obtain ⟨b0, e0, _, w0⟩ := DataW.trod_int Try.underlying3 k0
      simp only [List.cons.injEq, and_true] at e0
      subst e0
      obtain ⟨b1, e1, _, w1⟩ := DataW.trod_int Try.underlying2 k1
      simp only [List.cons.injEq, and_true] at e1
      subst e1
      obtain ⟨b2, e2, _, w2⟩ := DataW.trod_int Try.underlying2 k2
      simp only [List.cons.injEq, and_true] at e2
      subst e2
      obtain ⟨b3, e3, _, w3⟩ := DataW.trod_int Try.underlying2 k3
      simp only [List.cons.injEq, and_true] at e3
      subst e3
      obtain ⟨b4, e4, _, w4⟩ := DataW.trod_int Try.underlying2 k4
      simp only [List.cons.injEq, and_true] at e4
      subst e4
      obtain ⟨b5, e5, _, w5⟩ := DataW.trod_int Try.underlying2 k5
      simp only [List.cons.injEq, and_true] at e5
      subst e5
      obtain ⟨b6, e6, _, w6⟩ := DataW.trod_int Try.underlying2 k6
      simp only [List.cons.injEq, and_true] at e6
      subst e6
      obtain ⟨b7, e7, _, w7⟩ := DataW.trod_int Try.underlying2 k7
      simp only [List.cons.injEq, and_true] at e7
      subst e7
      obtain ⟨b8, e8, _, w8⟩ := DataW.trod_int Try.underlying2 k8
      simp only [List.cons.injEq, and_true] at e8
      subst e8
      obtain ⟨b9, e9, _, w9⟩ := DataW.trod_int Try.underlying2 k9
      simp only [List.cons.injEq, and_true] at e9
      subst e9
      obtain ⟨b10, e10, _, w10⟩ := DataW.trod_int Try.underlying3 k10
      simp only [List.cons.injEq, and_true] at e10
      subst e10
      obtain ⟨A11, m11, c11, e11⟩ := slice_cells Try.underlying25 k11
      subst e11
      obtain ⟨b12, e12, _, w12⟩ := DataW.trod_int Try.underlying3 k12
      simp only [List.cons.injEq, and_true] at e12
      subst e12
      exact ⟨b0, b1, b2, b3, b4, b5, b6, b7, b8, b9, b10, A11, m11, c11, b12, rfl, w0, w1, w2, w3, w4, w5, w6, w7, w8, w9, w10, ⟨n, y11.1, y11.2, k11⟩, w12⟩
set_option maxRecDepth 100000 in
theorem cells_T85 {H : Type} {enc : TypeId × Value → H} {w : World} {base : Nat} {spare : Nat → Bool} {held : Bool} {fuel : Nat} {cs : List Value} {x : DataW H × List MemPlace} (h : DataW.trod enc Try.prog w base spare held fuel 85 cs = some x) :
    ∃ (a0 : Int) (a1 : Int) (a2 : Int), cs = [.int .i64 a0, .int .i64 a1, .int .i64 a2] ∧ (Lit.int .i64 a0).wf = true ∧ (Lit.int .i64 a1).wf = true ∧ (Lit.int .i64 a2).wf = true := by
  obtain ⟨xs, n, _, hx, hl, hlen, hg⟩ := DataW.trod_struct Try.underlying85 h
  have hl' : cs.length = 3 := hl.trans (by kernel_rfl)
  match cs, hl' with
  | [v0, v1, v2], _ =>
    match xs, hlen with
    | [y0, y1, y2], _ =>
      have g0 : DataW.trod enc Try.prog w base spare held n 3 (([v0, v1, v2].drop 0).take (Try.prog.cellsOf 3)) = some y0 := hg 0 _ rfl
      rw [show Try.prog.cellsOf 3 = 1 from by kernel_rfl] at g0
      have k0 : DataW.trod enc Try.prog w base spare held n 3 [v0] = some y0 := g0
      have g1 : DataW.trod enc Try.prog w base spare held n 2 (([v0, v1, v2].drop 1).take (Try.prog.cellsOf 2)) = some y1 := hg 1 _ rfl
      rw [show Try.prog.cellsOf 2 = 1 from by kernel_rfl] at g1
      have k1 : DataW.trod enc Try.prog w base spare held n 2 [v1] = some y1 := g1
      have g2 : DataW.trod enc Try.prog w base spare held n 2 (([v0, v1, v2].drop 2).take (Try.prog.cellsOf 2)) = some y2 := hg 2 _ rfl
      rw [show Try.prog.cellsOf 2 = 1 from by kernel_rfl] at g2
      have k2 : DataW.trod enc Try.prog w base spare held n 2 [v2] = some y2 := g2
      obtain ⟨b0, e0, _, w0⟩ := DataW.trod_int Try.underlying3 k0
      simp only [List.cons.injEq, and_true] at e0
      subst e0
      obtain ⟨b1, e1, _, w1⟩ := DataW.trod_int Try.underlying2 k1
      simp only [List.cons.injEq, and_true] at e1
      subst e1
      obtain ⟨b2, e2, _, w2⟩ := DataW.trod_int Try.underlying2 k2
      simp only [List.cons.injEq, and_true] at e2
      subst e2
      exact ⟨b0, b1, b2, rfl, w0, w1, w2⟩
set_option maxRecDepth 100000 in
theorem cells_T24 {H : Type} {enc : TypeId × Value → H} {w : World} {base : Nat} {spare : Nat → Bool} {held : Bool} {fuel : Nat} {cs : List Value} {x : DataW H × List MemPlace} (h : DataW.trod enc Try.prog w base spare held fuel 24 cs = some x) :
    ∃ (a0 : Int) (a1 : Int) (a2 : Int) (a3 : Int) (a4 : Int) (a5 : Bool), cs = [.int .i64 a0, .int .i64 a1, .int .i64 a2, .int .i64 a3, .int .i64 a4, .bool a5] ∧ (Lit.int .i64 a0).wf = true ∧ (Lit.int .i64 a1).wf = true ∧ (Lit.int .i64 a2).wf = true ∧ (Lit.int .i64 a3).wf = true ∧ (Lit.int .i64 a4).wf = true := by
  obtain ⟨xs, n, _, hx, hl, hlen, hg⟩ := DataW.trod_struct Try.underlying24 h
  have hl' : cs.length = 6 := hl.trans (by kernel_rfl)
  match cs, hl' with
  | [v0, v1, v2, v3, v4, v5], _ =>
    match xs, hlen with
    | [y0, y1, y2, y3, y4, y5], _ =>
      have g0 : DataW.trod enc Try.prog w base spare held n 3 (([v0, v1, v2, v3, v4, v5].drop 0).take (Try.prog.cellsOf 3)) = some y0 := hg 0 _ rfl
      rw [show Try.prog.cellsOf 3 = 1 from by kernel_rfl] at g0
      have k0 : DataW.trod enc Try.prog w base spare held n 3 [v0] = some y0 := g0
      have g1 : DataW.trod enc Try.prog w base spare held n 2 (([v0, v1, v2, v3, v4, v5].drop 1).take (Try.prog.cellsOf 2)) = some y1 := hg 1 _ rfl
      rw [show Try.prog.cellsOf 2 = 1 from by kernel_rfl] at g1
      have k1 : DataW.trod enc Try.prog w base spare held n 2 [v1] = some y1 := g1
      have g2 : DataW.trod enc Try.prog w base spare held n 2 (([v0, v1, v2, v3, v4, v5].drop 2).take (Try.prog.cellsOf 2)) = some y2 := hg 2 _ rfl
      rw [show Try.prog.cellsOf 2 = 1 from by kernel_rfl] at g2
      have k2 : DataW.trod enc Try.prog w base spare held n 2 [v2] = some y2 := g2
      have g3 : DataW.trod enc Try.prog w base spare held n 2 (([v0, v1, v2, v3, v4, v5].drop 3).take (Try.prog.cellsOf 2)) = some y3 := hg 3 _ rfl
      rw [show Try.prog.cellsOf 2 = 1 from by kernel_rfl] at g3
      have k3 : DataW.trod enc Try.prog w base spare held n 2 [v3] = some y3 := g3
      have g4 : DataW.trod enc Try.prog w base spare held n 2 (([v0, v1, v2, v3, v4, v5].drop 4).take (Try.prog.cellsOf 2)) = some y4 := hg 4 _ rfl
      rw [show Try.prog.cellsOf 2 = 1 from by kernel_rfl] at g4
      have k4 : DataW.trod enc Try.prog w base spare held n 2 [v4] = some y4 := g4
      have g5 : DataW.trod enc Try.prog w base spare held n 4 (([v0, v1, v2, v3, v4, v5].drop 5).take (Try.prog.cellsOf 4)) = some y5 := hg 5 _ rfl
      rw [show Try.prog.cellsOf 4 = 1 from by kernel_rfl] at g5
      have k5 : DataW.trod enc Try.prog w base spare held n 4 [v5] = some y5 := g5
      obtain ⟨b0, e0, _, w0⟩ := DataW.trod_int Try.underlying3 k0
      simp only [List.cons.injEq, and_true] at e0
      subst e0
      obtain ⟨b1, e1, _, w1⟩ := DataW.trod_int Try.underlying2 k1
      simp only [List.cons.injEq, and_true] at e1
      subst e1
      obtain ⟨b2, e2, _, w2⟩ := DataW.trod_int Try.underlying2 k2
      simp only [List.cons.injEq, and_true] at e2
      subst e2
      obtain ⟨b3, e3, _, w3⟩ := DataW.trod_int Try.underlying2 k3
      simp only [List.cons.injEq, and_true] at e3
      subst e3
      obtain ⟨b4, e4, _, w4⟩ := DataW.trod_int Try.underlying2 k4
      simp only [List.cons.injEq, and_true] at e4
      subst e4
      obtain ⟨b5, e5, _⟩ := DataW.trod_bool Try.underlying4 k5
      simp only [List.cons.injEq, and_true] at e5
      subst e5
      exact ⟨b0, b1, b2, b3, b4, b5, rfl, w0, w1, w2, w3, w4⟩
set_option maxRecDepth 100000 in
theorem lifted (os : Os) (started : os.Started) (H : Type) (enc : TypeId × Value → H) :
    ReturnsInHanded {} Try.checked os 5 .any (Rows.guardFreeSpec.pre6 enc Try.prog Try.f5 Rows.guardFreeRow.domain false) (Rows.guardFreeSpec.post enc Try.prog Try.f5 false true false false) := by
  refine returnsInHanded_of_change_sized (C := Try.checked) own started (by kernel_rfl) Try.func5
    (ChangeSpec.witness6 (enc := enc) (C := Try.checked) false ⟨#[], #[.agg #[.int .i64 0, .int .i64 0, .int .i64 0, .int .i64 0, .int .i64 0, .int .i64 0, .int .i64 0, .int .i64 0, .int .i64 0, .int .i64 0, .int .i64 0, .slice none 0 0, .int .i64 0], .slice none 0 0, .agg #[.int .i64 0, .int .i64 0, .int .i64 0, .int .i64 0, .int .i64 0, .bool false]], []⟩ 8 (by kernel_rfl) (by kernel_rfl) (by kernel_rfl) (by kernel_rfl)) ?_
  intro W base args ds gs before hval0 hW hcnd hsz0 _
  have hsz : (DataW.weightsEach Try.prog (Try.f5.params.toList ++ Rows.guardFreeSpec.plain.varTypes Try.prog) (ds ++ gs)).all (· ≤ reachBytes) = true := hsz0
  have hval : ∀ (j : Nat) t v, Try.f5.params[j]? = some t → args[j]? = some v → Value.okWide Try.prog W .any base t v := hval0
  have hW' := hW
  obtain ⟨p, q, hA0, hV, rfl, hfz, hnd⟩ := hW
  have hA : DataW.TrodAll enc Try.prog W 0 (fun _ => true) true Try.f5.params.toList args.toList ds p := hA0
  rw [Try.params5] at hA hval hsz
  obtain ⟨v0, vs0, d0, ds0, p0, q0, hargs, rfl, rfl, h0, r0⟩ := trodAll_cons hA
  obtain ⟨v1, vs1, d1, ds1, p1, q1, rfl, rfl, rfl, h1, r1⟩ := trodAll_cons r0
  obtain ⟨v2, vs2, d2, ds2, p2, q2, rfl, rfl, rfl, h2, r2⟩ := trodAll_cons r1
  obtain ⟨rfl, rfl, rfl⟩ := trodAll_nil r2
  obtain rfl : args = #[v0, v1, v2] := by cases args; simp_all
  obtain ⟨rfl, rfl⟩ := trodVars_none hV
  have k0 := h0
  have lt0 : ∀ x ∈ p0, x.block < W.heap.size := by obtain ⟨m, hm⟩ := k0; exact DataW.trod_lt m _ _ _ hm
  obtain ⟨cs0, rfl, hsz0⟩ := okWide_struct Try.underlying27 (hval 0 27 v0 rfl rfl)
  obtain ⟨fu0, hf0⟩ := h0
  obtain ⟨a0_0, a0_1, a0_2, a0_3, a0_4, a0_5, a0_6, a0_7, a0_8, a0_9, a0_10, A0_11, len0_11, c0_11, a0_12, he0, w0_0, w0_1, w0_2, w0_3, w0_4, w0_5, w0_6, w0_7, w0_8, w0_9, w0_10, ht0_11, w0_12⟩ := cells_T27 hf0
  obtain rfl : cs0 = #[.int .i64 a0_0, .int .i64 a0_1, .int .i64 a0_2, .int .i64 a0_3, .int .i64 a0_4, .int .i64 a0_5, .int .i64 a0_6, .int .i64 a0_7, .int .i64 a0_8, .int .i64 a0_9, .int .i64 a0_10, .slice A0_11 len0_11 c0_11, .int .i64 a0_12] := by simpa [Value.cells] using congrArg List.toArray he0
  obtain ⟨m0_11_, d0_11_, p0_11_, ht0_11_⟩ := ht0_11
  obtain ⟨l0_11, rfl, hl0_11, hcm0_11, hw0_11, hcell0_11⟩ := open_rows (fun y : S85 => [.int .i64 y.f0, .int .i64 y.f1, .int .i64 y.f2]) (fun y => (Lit.int .i64 y.f0).wf = true ∧ (Lit.int .i64 y.f1).wf = true ∧ (Lit.int .i64 y.f2).wf = true) 3 Try.underlying25 (by kernel_rfl) (fun fuel cs x hh => by
      obtain ⟨b0, b1, b2, he, u0, u1, u2⟩ := cells_T85 hh
      exact ⟨(⟨b0, b1, b2⟩ : S85), he, ⟨u0, u1, u2⟩⟩) (show DataW.Trod enc Try.prog W 0 (fun _ => true) true 25 (.slice A0_11 len0_11 c0_11) d0_11_ p0_11_ from ⟨m0_11_, ht0_11_⟩)
  have hr0_11 : Kd.C k85 W A0_11 l0_11.length l0_11 := ⟨rfl, by have := hcm0_11; unfold maxLen at this; omega, fun hz => by
    obtain ⟨ad, e, hc⟩ := hcell0_11 hz
    exact ⟨ad, e, fun j p hj => ⟨_, rfl, k85_mk W p, fun i u hu => hc j p hj i u hu⟩⟩⟩
  have hm0_11 : l0_11.length ≤ maxLen := Nat.le_trans hl0_11 hcm0_11
  have k1 := h1
  have lt1 : ∀ x ∈ p1, x.block < W.heap.size := by obtain ⟨m, hm⟩ := k1; exact DataW.trod_lt m _ _ _ hm
  obtain ⟨A1, len1, c1, rfl⟩ := okWide_slice Try.underlying22 (hval 1 22 v1 rfl rfl)
  have y1 : len1 * 48 ≤ 140737488351232 := sized_rows hsz (j := 1) (t := 22) rfl rfl Try.underlying22 (by kernel_rfl) h1
  obtain ⟨l1, rfl, hl1, hcm1, hw1, hcell1⟩ := open_rows (fun y : S24 => [.int .i64 y.f0, .int .i64 y.f1, .int .i64 y.f2, .int .i64 y.f3, .int .i64 y.f4, .bool y.f5]) (fun y => (Lit.int .i64 y.f0).wf = true ∧ (Lit.int .i64 y.f1).wf = true ∧ (Lit.int .i64 y.f2).wf = true ∧ (Lit.int .i64 y.f3).wf = true ∧ (Lit.int .i64 y.f4).wf = true) 6 Try.underlying22 (by kernel_rfl) (fun fuel cs x hh => by
      obtain ⟨b0, b1, b2, b3, b4, b5, he, u0, u1, u2, u3, u4⟩ := cells_T24 hh
      exact ⟨(⟨b0, b1, b2, b3, b4, b5⟩ : S24), he, ⟨u0, u1, u2, u3, u4⟩⟩) h1
  have hr1 : Kd.C k24 W A1 l1.length l1 := ⟨rfl, by have := hcm1; unfold maxLen at this; omega, fun hz => by
    obtain ⟨ad, e, hc⟩ := hcell1 hz
    exact ⟨ad, e, fun j p hj => ⟨_, rfl, k24_mk W p, fun i u hu => hc j p hj i u hu⟩⟩⟩
  have hm1 : l1.length ≤ maxLen := Nat.le_trans hl1 hcm1
  have k2 := h2
  have lt2 : ∀ x ∈ p2, x.block < W.heap.size := by obtain ⟨m, hm⟩ := k2; exact DataW.trod_lt m _ _ _ hm
  obtain ⟨cs2, rfl, hsz2⟩ := okWide_struct Try.underlying24 (hval 2 24 v2 rfl rfl)
  obtain ⟨fu2, hf2⟩ := h2
  obtain ⟨a2_0, a2_1, a2_2, a2_3, a2_4, a2_5, he2, w2_0, w2_1, w2_2, w2_3, w2_4⟩ := cells_T24 hf2
  obtain rfl : cs2 = #[.int .i64 a2_0, .int .i64 a2_1, .int .i64 a2_2, .int .i64 a2_3, .int .i64 a2_4, .bool a2_5] := by simpa [Value.cells] using congrArg List.toArray he2
  clear hA0 hval0 hsz0 hsz
  refine (flywheellaw28_GuardFree.walk Pure.GuardFree a0_0 a0_1 a0_2 a0_3 a0_4 a0_5 a0_6 a0_7 a0_8 a0_9 a0_10 A0_11 c0_11 l0_11 a0_12 A1 c1 l1 a2_0 a2_1 a2_2 a2_3 a2_4 a2_5 W w0_0 w0_1 w0_2 w0_3 w0_4 w0_5 w0_6 w0_7 w0_8 w0_9 w0_10 hm0_11 hw0_11 w0_12 hm1 y1 hw1 w2_0 w2_1 w2_2 w2_3 w2_4 hr0_11 hl0_11 hr1 hl1).mono fun e W' ⟨he, bel⟩ => ?_
  subst he
  exact ⟨_, rfl, _, _, _, [], _, [], hW', trodAll_mk1 (shut_bool Try.underlying4 _), (trodAll_cons_mk (Below.trod laidOut (by kernel_rfl) (of_decide_eq_true (by kernel_rfl)) k0 bel lt0) (trodAll_cons_mk (Below.trod laidOut (by kernel_rfl) (of_decide_eq_true (by kernel_rfl)) k1 bel lt1) (trodAll_cons_mk (Below.trod laidOut (by kernel_rfl) (of_decide_eq_true (by kernel_rfl)) k2 bel lt2) trodAll_mk0))), rfl, bel.frame _, fun h => by cases h⟩
theorem over : Rows.guardFreeRow.holds Try.pinned (OpenSpec.ofChange Rows.guardFreeSpec) :=
  OpenClaim.holds_of_wide 5 Try.f5 rfl rfl rfl rfl rfl rfl rfl ⟨rfl, rfl, rfl, rfl, rfl⟩ rfl rfl rfl rfl rfl (by kernel_rfl) Try.func5 (by kernel_rfl)
    (of_decide_eq_true (by kernel_rfl)) (by unfold Func.isWrapper; first | (rw [if_pos (by decide +kernel)]; kernel_rfl) | (rw [if_neg (by decide +kernel)]; exact ⟨rfl, rfl⟩))
    (fun os started H enc _ => lifted os started H enc)
theorem proved : Rows.GuardFreeSaid := over
#print axioms proved
end Go.Proofs.Ytkfkbebpcmmnfaa.guardFree
namespace Go.Proofs.Ytkfkbebpcmmnfaa
theorem guardFree_holds : Rows.GuardFreeSaid := guardFree.proved
end Go.Proofs.Ytkfkbebpcmmnfaa
end

-- PUT TOGETHER by a program of this session: of the claim's texts, what is used
import Derived.Test.YtdddpmmpfemibaaKProbePlays11
import Derived.Test.YtdddpmmpfemibaaKProbePlays12
import Derived.Test.YtdddpmmpfemibaaKProbePlays13
import Derived.Test.YtdddpmmpfemibaaKProbePlays14
import Derived.Test.YtdddpmmpfemibaaRows
import Derived.WalkKit
import Derived.ProofKit
import Derived.OpenShut
import Derived.ShutString
import Derived.ChangeOld
import Derived.Below
import Derived.SizedLaws
import Derived.Lib.SmallJoins
section
namespace Go.Proofs.Ytdddpmmpfemibaa.probePlays
open Go.ChangeShapes Go.WideShapes Go.ChangeAt Go.RowKit Go.Proofs.YtdddpmmpfemibaaW.PrintWords Go.Proofs.Ytdddpmmpfemibaa.P
open Go.ChangeMaps (open_string shut_string)
set_option linter.unusedVariables false
theorem own : ownKnob Try.prog.godebug = none := by kernel_rfl
theorem laidOut : laidOutB Try.prog = true := by kernel_rfl
set_option maxRecDepth 100000 in
theorem cells_T28 {H : Type} {enc : TypeId × Value → H} {w : World} {base : Nat} {spare : Nat → Bool} {held : Bool} {fuel : Nat} {cs : List Value} {x : DataW H × List MemPlace} (h : DataW.trod enc Try.prog w base spare held fuel 28 cs = some x) :
    ∃ (a0 : Int) (a1 : Int) (a2 : Int) (a3 : Int) (a4 : Int) (a5 : Int), cs = [.int .i64 a0, .int .i64 a1, .int .i64 a2, .int .i64 a3, .int .i64 a4, .int .i64 a5] ∧ (Lit.int .i64 a0).wf = true ∧ (Lit.int .i64 a1).wf = true ∧ (Lit.int .i64 a2).wf = true ∧ (Lit.int .i64 a3).wf = true ∧ (Lit.int .i64 a4).wf = true ∧ (Lit.int .i64 a5).wf = true := by
  obtain ⟨xs, n, _, hx, hl, hlen, hg⟩ := DataW.trod_struct Try.underlying28 h
  have hl' : cs.length = 6 := hl.trans (by kernel_rfl)
  match cs, hl' with
  | [v0, v1, v2, v3, v4, v5], _ =>
    match xs, hlen with
    | [y0, y1, y2, y3, y4, y5], _ =>
      have g0 : DataW.trod enc Try.prog w base spare held n 3 (([v0, v1, v2, v3, v4, v5].drop 0).take (Try.prog.cellsOf 3)) = some y0 := hg 0 _ rfl
      rw [show Try.prog.cellsOf 3 = 1 from by kernel_rfl] at g0
      have k0 : DataW.trod enc Try.prog w base spare held n 3 [v0] = some y0 := g0
      have g1 : DataW.trod enc Try.prog w base spare held n 3 (([v0, v1, v2, v3, v4, v5].drop 1).take (Try.prog.cellsOf 3)) = some y1 := hg 1 _ rfl
      rw [show Try.prog.cellsOf 3 = 1 from by kernel_rfl] at g1
      have k1 : DataW.trod enc Try.prog w base spare held n 3 [v1] = some y1 := g1
      have g2 : DataW.trod enc Try.prog w base spare held n 3 (([v0, v1, v2, v3, v4, v5].drop 2).take (Try.prog.cellsOf 3)) = some y2 := hg 2 _ rfl
      rw [show Try.prog.cellsOf 3 = 1 from by kernel_rfl] at g2
      have k2 : DataW.trod enc Try.prog w base spare held n 3 [v2] = some y2 := g2
      have g3 : DataW.trod enc Try.prog w base spare held n 2 (([v0, v1, v2, v3, v4, v5].drop 3).take (Try.prog.cellsOf 2)) = some y3 := hg 3 _ rfl
      rw [show Try.prog.cellsOf 2 = 1 from by kernel_rfl] at g3
      have k3 : DataW.trod enc Try.prog w base spare held n 2 [v3] = some y3 := g3
      have g4 : DataW.trod enc Try.prog w base spare held n 2 (([v0, v1, v2, v3, v4, v5].drop 4).take (Try.prog.cellsOf 2)) = some y4 := hg 4 _ rfl
      rw [show Try.prog.cellsOf 2 = 1 from by kernel_rfl] at g4
      have k4 : DataW.trod enc Try.prog w base spare held n 2 [v4] = some y4 := g4
      have g5 : DataW.trod enc Try.prog w base spare held n 2 (([v0, v1, v2, v3, v4, v5].drop 5).take (Try.prog.cellsOf 2)) = some y5 := hg 5 _ rfl
      rw [show Try.prog.cellsOf 2 = 1 from by kernel_rfl] at g5
      have k5 : DataW.trod enc Try.prog w base spare held n 2 [v5] = some y5 := g5
      obtain ⟨b0, e0, _, w0⟩ := DataW.trod_int Try.underlying3 k0
      simp only [List.cons.injEq, and_true] at e0
      subst e0
      obtain ⟨b1, e1, _, w1⟩ := DataW.trod_int Try.underlying3 k1
      simp only [List.cons.injEq, and_true] at e1
      subst e1
      obtain ⟨b2, e2, _, w2⟩ := DataW.trod_int Try.underlying3 k2
      simp only [List.cons.injEq, and_true] at e2
      subst e2
      obtain ⟨b3, e3, _, w3⟩ := DataW.trod_int Try.underlying2 k3
      simp only [List.cons.injEq, and_true] at e3
      subst e3
      obtain ⟨b4, e4, _, w4⟩ := DataW.trod_int Try.underlying2 k4
      simp only [List.cons.injEq, and_true] at e4
      subst e4
      obtain ⟨b5, e5, _, w5⟩ := DataW.trod_int Try.underlying2 k5
      simp only [List.cons.injEq, and_true] at e5
      subst e5
      exact ⟨b0, b1, b2, b3, b4, b5, rfl, w0, w1, w2, w3, w4, w5⟩
set_option maxRecDepth 100000 in
theorem lifted (os : Os) (started : os.Started) (H : Type) (enc : TypeId × Value → H) :
    ReturnsInHanded {} Try.checked os 3 .any (Rows.probePlaysSpec.pre6 enc Try.prog Try.f3 Rows.probePlaysRow.domain false) (Rows.probePlaysSpec.post enc Try.prog Try.f3 false true false false) := by
  refine returnsInHanded_of_change_sized (C := Try.checked) own started (by kernel_rfl) Try.func3
    (ChangeSpec.witness6 (enc := enc) (C := Try.checked) false ⟨#[], #[.slice none 0 0], []⟩ 8 (by kernel_rfl) (by kernel_rfl) (by kernel_rfl) (by kernel_rfl)) ?_
  intro W base args ds gs before hval0 hW hcnd hsz0 _
  have hsz : (DataW.weightsEach Try.prog (Try.f3.params.toList ++ Rows.probePlaysSpec.plain.varTypes Try.prog) (ds ++ gs)).all (· ≤ reachBytes) = true := hsz0
  have hval : ∀ (j : Nat) t v, Try.f3.params[j]? = some t → args[j]? = some v → Value.okWide Try.prog W .any base t v := hval0
  have hW' := hW
  obtain ⟨p, q, hA0, hV, rfl, hfz, hnd⟩ := hW
  have hA : DataW.TrodAll enc Try.prog W 0 (fun _ => true) true Try.f3.params.toList args.toList ds p := hA0
  rw [Try.params3] at hA hval hsz
  obtain ⟨v0, vs0, d0, ds0, p0, q0, hargs, rfl, rfl, h0, r0⟩ := trodAll_cons hA
  obtain ⟨rfl, rfl, rfl⟩ := trodAll_nil r0
  obtain rfl : args = #[v0] := by cases args; simp_all
  obtain ⟨rfl, rfl⟩ := trodVars_none hV
  have k0 := h0
  have lt0 : ∀ x ∈ p0, x.block < W.heap.size := by obtain ⟨m, hm⟩ := k0; exact DataW.trod_lt m _ _ _ hm
  obtain ⟨A0, len0, c0, rfl⟩ := okWide_slice Try.underlying22 (hval 0 22 v0 rfl rfl)
  have y0 : len0 * 48 ≤ 140737488351232 := sized_rows hsz (j := 0) (t := 22) rfl rfl Try.underlying22 (by kernel_rfl) h0
  obtain ⟨l0, rfl, hl0, hcm0, hw0, hcell0⟩ := open_rows (fun y : S28 => [.int .i64 y.f0, .int .i64 y.f1, .int .i64 y.f2, .int .i64 y.f3, .int .i64 y.f4, .int .i64 y.f5]) (fun y => (Lit.int .i64 y.f0).wf = true ∧ (Lit.int .i64 y.f1).wf = true ∧ (Lit.int .i64 y.f2).wf = true ∧ (Lit.int .i64 y.f3).wf = true ∧ (Lit.int .i64 y.f4).wf = true ∧ (Lit.int .i64 y.f5).wf = true) 6 Try.underlying22 (by kernel_rfl) (fun fuel cs x hh => by
      obtain ⟨b0, b1, b2, b3, b4, b5, he, u0, u1, u2, u3, u4, u5⟩ := cells_T28 hh
      exact ⟨(⟨b0, b1, b2, b3, b4, b5⟩ : S28), he, ⟨u0, u1, u2, u3, u4, u5⟩⟩) h0
  have hr0 : Kd.C k28 W A0 l0.length l0 := ⟨rfl, by have := hcm0; unfold maxLen at this; omega, fun hz => by
    obtain ⟨ad, e, hc⟩ := hcell0 hz
    exact ⟨ad, e, fun j p hj => ⟨_, rfl, k28_mk W p, fun i u hu => hc j p hj i u hu⟩⟩⟩
  have hm0 : l0.length ≤ maxLen := Nat.le_trans hl0 hcm0
  clear hA0 hval0 hsz0 hsz
  refine (flywheellaw26_ProbePlays.walk Pure.ProbePlays A0 c0 l0 W hm0 y0 hw0 hr0 hl0).mono fun e W' ⟨he, bel⟩ => ?_
  subst he
  exact ⟨_, rfl, _, _, _, [], _, [], hW', trodAll_mk1 (shut_bool Try.underlying4 _), (trodAll_cons_mk (Below.trod laidOut (by kernel_rfl) (of_decide_eq_true (by kernel_rfl)) k0 bel lt0) trodAll_mk0), rfl, bel.frame _, fun h => by cases h⟩
theorem over : Rows.probePlaysRow.holds Try.pinned (OpenSpec.ofChange Rows.probePlaysSpec) :=
  OpenClaim.holds_of_wide 3 Try.f3 rfl rfl rfl rfl rfl rfl rfl ⟨rfl, rfl, rfl, rfl, rfl⟩ rfl rfl rfl rfl rfl (by kernel_rfl) Try.func3 (by kernel_rfl)
    (of_decide_eq_true (by kernel_rfl)) (by unfold Func.isWrapper; first | (rw [if_pos (by decide +kernel)]; kernel_rfl) | (rw [if_neg (by decide +kernel)]; exact ⟨rfl, rfl⟩))
    (fun os started H enc _ => lifted os started H enc)
theorem proved : Rows.ProbePlaysSaid := over
#print axioms proved
end Go.Proofs.Ytdddpmmpfemibaa.probePlays
namespace Go.Proofs.Ytdddpmmpfemibaa
theorem probePlays_holds : Rows.ProbePlaysSaid := probePlays.proved
end Go.Proofs.Ytdddpmmpfemibaa
end

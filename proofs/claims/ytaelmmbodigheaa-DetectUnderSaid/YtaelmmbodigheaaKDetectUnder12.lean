-- PUT TOGETHER by a program of this session: of the claim's texts, what is used
import Derived.Test.YtaelmmbodigheaaKDetectUnder8
import Derived.Test.YtaelmmbodigheaaKDetectUnder9
import Derived.Test.YtaelmmbodigheaaKDetectUnder10
import Derived.Test.YtaelmmbodigheaaKDetectUnder11
import Derived.Test.YtaelmmbodigheaaRows
import Derived.WalkKit
import Derived.ProofKit
import Derived.OpenShut
import Derived.ShutString
import Derived.ChangeOld
import Derived.Below
import Derived.SizedLaws
import Derived.Lib.SmallJoins
section
namespace Go.Proofs.Ytaelmmbodigheaa.detectUnder
open Go.ChangeShapes Go.WideShapes Go.ChangeAt Go.RowKit Go.Proofs.YtaelmmbodigheaaW.PrintWords Go.Proofs.Ytaelmmbodigheaa.P
open Go.ChangeMaps (open_string shut_string)
set_option linter.unusedVariables false
theorem own : ownKnob Try.prog.godebug = none := by kernel_rfl
theorem laidOut : laidOutB Try.prog = true := by kernel_rfl
set_option maxRecDepth 100000 in
theorem cells_T51 {H : Type} {enc : TypeId × Value → H} {w : World} {base : Nat} {spare : Nat → Bool} {held : Bool} {fuel : Nat} {cs : List Value} {x : DataW H × List MemPlace} (h : DataW.trod enc Try.prog w base spare held fuel 51 cs = some x) :
    ∃ (a0 : Int) (a1 : Int) (a2 : Int) (a3 : Int), cs = [.int .i64 a0, .int .i64 a1, .int .i64 a2, .int .i64 a3] ∧ (Lit.int .i64 a0).wf = true ∧ (Lit.int .i64 a1).wf = true ∧ (Lit.int .i64 a2).wf = true ∧ (Lit.int .i64 a3).wf = true := by
  obtain ⟨xs, n, _, hx, hl, hlen, hg⟩ := DataW.trod_struct Try.underlying51 h
  have hl' : cs.length = 4 := hl.trans (by kernel_rfl)
  match cs, hl' with
  | [v0, v1, v2, v3], _ =>
    match xs, hlen with
    | [y0, y1, y2, y3], _ =>
      have g0 : DataW.trod enc Try.prog w base spare held n 2 (([v0, v1, v2, v3].drop 0).take (Try.prog.cellsOf 2)) = some y0 := hg 0 _ rfl
      rw [show Try.prog.cellsOf 2 = 1 from by kernel_rfl] at g0
      have k0 : DataW.trod enc Try.prog w base spare held n 2 [v0] = some y0 := g0
      have g1 : DataW.trod enc Try.prog w base spare held n 3 (([v0, v1, v2, v3].drop 1).take (Try.prog.cellsOf 3)) = some y1 := hg 1 _ rfl
      rw [show Try.prog.cellsOf 3 = 1 from by kernel_rfl] at g1
      have k1 : DataW.trod enc Try.prog w base spare held n 3 [v1] = some y1 := g1
      have g2 : DataW.trod enc Try.prog w base spare held n 2 (([v0, v1, v2, v3].drop 2).take (Try.prog.cellsOf 2)) = some y2 := hg 2 _ rfl
      rw [show Try.prog.cellsOf 2 = 1 from by kernel_rfl] at g2
      have k2 : DataW.trod enc Try.prog w base spare held n 2 [v2] = some y2 := g2
      have g3 : DataW.trod enc Try.prog w base spare held n 2 (([v0, v1, v2, v3].drop 3).take (Try.prog.cellsOf 2)) = some y3 := hg 3 _ rfl
      rw [show Try.prog.cellsOf 2 = 1 from by kernel_rfl] at g3
      have k3 : DataW.trod enc Try.prog w base spare held n 2 [v3] = some y3 := g3
      obtain ⟨b0, e0, _, w0⟩ := DataW.trod_int Try.underlying2 k0
      simp only [List.cons.injEq, and_true] at e0
      subst e0
      obtain ⟨b1, e1, _, w1⟩ := DataW.trod_int Try.underlying3 k1
      simp only [List.cons.injEq, and_true] at e1
      subst e1
      obtain ⟨b2, e2, _, w2⟩ := DataW.trod_int Try.underlying2 k2
      simp only [List.cons.injEq, and_true] at e2
      subst e2
      obtain ⟨b3, e3, _, w3⟩ := DataW.trod_int Try.underlying2 k3
      simp only [List.cons.injEq, and_true] at e3
      subst e3
      exact ⟨b0, b1, b2, b3, rfl, w0, w1, w2, w3⟩
set_option maxRecDepth 100000 in
theorem lifted (os : Os) (started : os.Started) (H : Type) (enc : TypeId × Value → H) :
    ReturnsInHanded {} Try.checked os 13 .any (Rows.detectUnderSpec.pre6 enc Try.prog Try.f13 Rows.detectUnderRow.domain false) (Rows.detectUnderSpec.post enc Try.prog Try.f13 false true false false) := by
  refine returnsInHanded_of_change_sized (C := Try.checked) own started (by kernel_rfl) Try.func13
    (ChangeSpec.witness6 (enc := enc) (C := Try.checked) false ⟨#[], #[.slice none 0 0, .int .u32 0, .int .i64 0], []⟩ 8 (by kernel_rfl) (by kernel_rfl) (by kernel_rfl) (by kernel_rfl)) ?_
  intro W base args ds gs before hval0 hW hcnd hsz0 _
  have hsz : (DataW.weightsEach Try.prog (Try.f13.params.toList ++ Rows.detectUnderSpec.plain.varTypes Try.prog) (ds ++ gs)).all (· ≤ reachBytes) = true := hsz0
  have hval : ∀ (j : Nat) t v, Try.f13.params[j]? = some t → args[j]? = some v → Value.okWide Try.prog W .any base t v := hval0
  have hW' := hW
  obtain ⟨p, q, hA0, hV, rfl, hfz, hnd⟩ := hW
  have hA : DataW.TrodAll enc Try.prog W 0 (fun _ => true) true Try.f13.params.toList args.toList ds p := hA0
  rw [Try.params13] at hA hval hsz
  obtain ⟨v0, vs0, d0, ds0, p0, q0, hargs, rfl, rfl, h0, r0⟩ := trodAll_cons hA
  obtain ⟨v1, vs1, d1, ds1, p1, q1, rfl, rfl, rfl, h1, r1⟩ := trodAll_cons r0
  obtain ⟨v2, vs2, d2, ds2, p2, q2, rfl, rfl, rfl, h2, r2⟩ := trodAll_cons r1
  obtain ⟨rfl, rfl, rfl⟩ := trodAll_nil r2
  obtain rfl : args = #[v0, v1, v2] := by cases args; simp_all
  obtain ⟨rfl, rfl⟩ := trodVars_none hV
  have k0 := h0
  have lt0 : ∀ x ∈ p0, x.block < W.heap.size := by obtain ⟨m, hm⟩ := k0; exact DataW.trod_lt m _ _ _ hm
  obtain ⟨A0, len0, c0, rfl⟩ := okWide_slice Try.underlying45 (hval 0 45 v0 rfl rfl)
  have y0 : len0 * 32 ≤ 140737488351232 := sized_rows hsz (j := 0) (t := 45) rfl rfl Try.underlying45 (by kernel_rfl) h0
  obtain ⟨l0, rfl, hl0, hcm0, hw0, hcell0⟩ := open_rows (fun y : S51 => [.int .i64 y.f0, .int .i64 y.f1, .int .i64 y.f2, .int .i64 y.f3]) (fun y => (Lit.int .i64 y.f0).wf = true ∧ (Lit.int .i64 y.f1).wf = true ∧ (Lit.int .i64 y.f2).wf = true ∧ (Lit.int .i64 y.f3).wf = true) 4 Try.underlying45 (by kernel_rfl) (fun fuel cs x hh => by
      obtain ⟨b0, b1, b2, b3, he, u0, u1, u2, u3⟩ := cells_T51 hh
      exact ⟨(⟨b0, b1, b2, b3⟩ : S51), he, ⟨u0, u1, u2, u3⟩⟩) h0
  have hr0 : Kd.C k51 W A0 l0.length l0 := ⟨rfl, by have := hcm0; unfold maxLen at this; omega, fun hz => by
    obtain ⟨ad, e, hc⟩ := hcell0 hz
    exact ⟨ad, e, fun j p hj => ⟨_, rfl, k51_mk W p, fun i u hu => hc j p hj i u hu⟩⟩⟩
  have hm0 : l0.length ≤ maxLen := Nat.le_trans hl0 hcm0
  obtain ⟨a1, rfl, rfl, rfl, w1⟩ := open_int Try.underlying59 (hval 1 59 v1 rfl rfl) h1
  obtain ⟨a2, rfl, rfl, rfl, w2⟩ := open_int Try.underlying3 (hval 2 3 v2 rfl rfl) h2
  clear hA0 hval0 hsz0 hsz
  refine (flywheellaw18_DetectUnder.walk Pure.DetectUnder A0 c0 l0 a1 a2 W hm0 y0 hw0 w1 w2 hr0 hl0).mono fun e W' ⟨he, bel⟩ => ?_
  subst he
  exact ⟨_, rfl, _, _, _, [], _, [], hW', trodAll_mk1 (shut_bool Try.underlying4 _), (trodAll_cons_mk (Below.trod laidOut (by kernel_rfl) (of_decide_eq_true (by kernel_rfl)) k0 bel lt0) (trodAll_cons_mk (shut_int Try.underlying59 w1) (trodAll_cons_mk (shut_int Try.underlying3 w2) trodAll_mk0))), rfl, bel.frame _, fun h => by cases h⟩
theorem over : Rows.detectUnderRow.holds Try.pinned (OpenSpec.ofChange Rows.detectUnderSpec) :=
  OpenClaim.holds_of_wide 13 Try.f13 rfl rfl rfl rfl rfl rfl rfl ⟨rfl, rfl, rfl, rfl, rfl⟩ rfl rfl rfl rfl rfl (by kernel_rfl) Try.func13 (by kernel_rfl)
    (of_decide_eq_true (by kernel_rfl)) (by unfold Func.isWrapper; first | (rw [if_pos (by decide +kernel)]; kernel_rfl) | (rw [if_neg (by decide +kernel)]; exact ⟨rfl, rfl⟩))
    (fun os started H enc _ => lifted os started H enc)
theorem proved : Rows.DetectUnderSaid := over
#print axioms proved
end Go.Proofs.Ytaelmmbodigheaa.detectUnder
namespace Go.Proofs.Ytaelmmbodigheaa
theorem detectUnder_holds : Rows.DetectUnderSaid := detectUnder.proved
end Go.Proofs.Ytaelmmbodigheaa
end

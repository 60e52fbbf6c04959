-- PUT TOGETHER by a program of this session: of the claim's texts, what is used
import Derived.Test.YtmcfgaokimlngaaKTrendTwice11
import Derived.Test.YtmcfgaokimlngaaKTrendTwice12
import Derived.Test.YtmcfgaokimlngaaKTrendTwice13
import Derived.Test.YtmcfgaokimlngaaKTrendTwice14
import Derived.Test.YtmcfgaokimlngaaRows
import Derived.WalkKit
import Derived.ProofKit
import Derived.OpenShut
import Derived.ShutString
import Derived.ChangeOld
import Derived.Below
import Derived.SizedLaws
import Derived.Lib.SmallJoins
section
namespace Go.Proofs.Ytmcfgaokimlngaa.trendTwice
open Go.ChangeShapes Go.WideShapes Go.ChangeAt Go.RowKit Go.Proofs.YtmcfgaokimlngaaW.PrintWords Go.Proofs.Ytmcfgaokimlngaa.P
open Go.ChangeMaps (open_string shut_string)
set_option linter.unusedVariables false
theorem own : ownKnob Try.prog.godebug = none := by kernel_rfl
theorem laidOut : laidOutB Try.prog = true := by kernel_rfl
set_option maxRecDepth 100000 in
theorem cells_T47 {H : Type} {enc : TypeId × Value → H} {w : World} {base : Nat} {spare : Nat → Bool} {held : Bool} {fuel : Nat} {cs : List Value} {x : DataW H × List MemPlace} (h : DataW.trod enc Try.prog w base spare held fuel 47 cs = some x) :
    ∃ (a0 : Int) (a1 : Int), cs = [.int .i16 a0, .int .i16 a1] ∧ (Lit.int .i16 a0).wf = true ∧ (Lit.int .i16 a1).wf = true := by
  obtain ⟨xs, n, _, hx, hl, hlen, hg⟩ := DataW.trod_array Try.underlying47 h
  have hl' : cs.length = 2 := hl.trans (by kernel_rfl)
  match cs, hl' with
  | [v0, v1], _ =>
    match xs, hlen with
    | [y0, y1], _ =>
      have g0 : DataW.trod enc Try.prog w base spare held n 43 (([v0, v1].drop (0 * Try.prog.cellsOf 43)).take (Try.prog.cellsOf 43)) = some y0 := hg 0 (by decide)
      rw [show Try.prog.cellsOf 43 = 1 from by kernel_rfl] at g0
      have k0 : DataW.trod enc Try.prog w base spare held n 43 [v0] = some y0 := g0
      have g1 : DataW.trod enc Try.prog w base spare held n 43 (([v0, v1].drop (1 * Try.prog.cellsOf 43)).take (Try.prog.cellsOf 43)) = some y1 := hg 1 (by decide)
      rw [show Try.prog.cellsOf 43 = 1 from by kernel_rfl] at g1
      have k1 : DataW.trod enc Try.prog w base spare held n 43 [v1] = some y1 := g1
      obtain ⟨b0, e0, _, w0⟩ := DataW.trod_int Try.underlying43 k0
      simp only [List.cons.injEq, and_true] at e0
      subst e0
      obtain ⟨b1, e1, _, w1⟩ := DataW.trod_int Try.underlying43 k1
      simp only [List.cons.injEq, and_true] at e1
      subst e1
      exact ⟨b0, b1, rfl, w0, w1⟩
set_option maxRecDepth 100000 in
theorem lifted (os : Os) (started : os.Started) (H : Type) (enc : TypeId × Value → H) :
    ReturnsInHanded {} Try.checked os 9 .any (Rows.trendTwiceSpec.pre6 enc Try.prog Try.f9 Rows.trendTwiceRow.domain false) (Rows.trendTwiceSpec.post enc Try.prog Try.f9 false true false false) := by
  refine returnsInHanded_of_change_sized (C := Try.checked) own started (by kernel_rfl) Try.func9
    (ChangeSpec.witness6 (enc := enc) (C := Try.checked) false ⟨#[], #[.slice none 0 0], []⟩ 8 (by kernel_rfl) (by kernel_rfl) (by kernel_rfl) (by kernel_rfl)) ?_
  intro W base args ds gs before hval0 hW hcnd hsz0 _
  have hsz : (DataW.weightsEach Try.prog (Try.f9.params.toList ++ Rows.trendTwiceSpec.plain.varTypes Try.prog) (ds ++ gs)).all (· ≤ reachBytes) = true := hsz0
  have hval : ∀ (j : Nat) t v, Try.f9.params[j]? = some t → args[j]? = some v → Value.okWide Try.prog W .any base t v := hval0
  have hW' := hW
  obtain ⟨p, q, hA0, hV, rfl, hfz, hnd⟩ := hW
  have hA : DataW.TrodAll enc Try.prog W 0 (fun _ => true) true Try.f9.params.toList args.toList ds p := hA0
  rw [Try.params9] at hA hval hsz
  obtain ⟨v0, vs0, d0, ds0, p0, q0, hargs, rfl, rfl, h0, r0⟩ := trodAll_cons hA
  obtain ⟨rfl, rfl, rfl⟩ := trodAll_nil r0
  obtain rfl : args = #[v0] := by cases args; simp_all
  obtain ⟨rfl, rfl⟩ := trodVars_none hV
  have k0 := h0
  have lt0 : ∀ x ∈ p0, x.block < W.heap.size := by obtain ⟨m, hm⟩ := k0; exact DataW.trod_lt m _ _ _ hm
  obtain ⟨A0, len0, c0, rfl⟩ := okWide_slice Try.underlying46 (hval 0 46 v0 rfl rfl)
  have y0 : len0 * 4 ≤ 140737488351232 := sized_rows hsz (j := 0) (t := 46) rfl rfl Try.underlying46 (by kernel_rfl) h0
  obtain ⟨l0, rfl, hl0, hcm0, hw0, hcell0⟩ := open_rows (fun y : S47 => [.int .i16 y.f0, .int .i16 y.f1]) (fun y => (Lit.int .i16 y.f0).wf = true ∧ (Lit.int .i16 y.f1).wf = true) 2 Try.underlying46 (by kernel_rfl) (fun fuel cs x hh => by
      obtain ⟨b0, b1, he, u0, u1⟩ := cells_T47 hh
      exact ⟨(⟨b0, b1⟩ : S47), he, ⟨u0, u1⟩⟩) h0
  have hr0 : Kd.C k47 W A0 l0.length l0 := ⟨rfl, by have := hcm0; unfold maxLen at this; omega, fun hz => by
    obtain ⟨ad, e, hc⟩ := hcell0 hz
    exact ⟨ad, e, fun j p hj => ⟨_, rfl, k47_mk W p, fun i u hu => hc j p hj i u hu⟩⟩⟩
  have hm0 : l0.length ≤ maxLen := Nat.le_trans hl0 hcm0
  clear hA0 hval0 hsz0 hsz
  refine (flywheellaw17_TrendTwice.walk Pure.TrendTwice A0 c0 l0 W hm0 y0 hw0 hr0 hl0).mono fun e W' ⟨he, bel⟩ => ?_
  subst he
  exact ⟨_, rfl, _, _, _, [], _, [], hW', trodAll_mk1 (shut_bool Try.underlying4 _), (trodAll_cons_mk (Below.trod laidOut (by kernel_rfl) (of_decide_eq_true (by kernel_rfl)) k0 bel lt0) trodAll_mk0), rfl, bel.frame _, fun h => by cases h⟩
theorem over : Rows.trendTwiceRow.holds Try.pinned (OpenSpec.ofChange Rows.trendTwiceSpec) :=
  OpenClaim.holds_of_wide 9 Try.f9 rfl rfl rfl rfl rfl rfl rfl ⟨rfl, rfl, rfl, rfl, rfl⟩ rfl rfl rfl rfl rfl (by kernel_rfl) Try.func9 (by kernel_rfl)
    (of_decide_eq_true (by kernel_rfl)) (by unfold Func.isWrapper; first | (rw [if_pos (by decide +kernel)]; kernel_rfl) | (rw [if_neg (by decide +kernel)]; exact ⟨rfl, rfl⟩))
    (fun os started H enc _ => lifted os started H enc)
theorem proved : Rows.TrendTwiceSaid := over
#print axioms proved
end Go.Proofs.Ytmcfgaokimlngaa.trendTwice
namespace Go.Proofs.Ytmcfgaokimlngaa
theorem trendTwice_holds : Rows.TrendTwiceSaid := trendTwice.proved
end Go.Proofs.Ytmcfgaokimlngaa
end

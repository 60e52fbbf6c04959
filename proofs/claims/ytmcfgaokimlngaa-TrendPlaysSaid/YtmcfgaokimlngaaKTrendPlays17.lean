-- PUT TOGETHER by a program of this session: of the claim's texts, what is used
import Derived.Test.YtmcfgaokimlngaaKTrendPlays13
import Derived.Test.YtmcfgaokimlngaaKTrendPlays14
import Derived.Test.YtmcfgaokimlngaaKTrendPlays15
import Derived.Test.YtmcfgaokimlngaaKTrendPlays16
import Derived.Test.YtmcfgaokimlngaaRows
import Derived.WalkKit
import Derived.ProofKit
import Derived.OpenShut
import Derived.ShutString
import Derived.ChangeOld
import Derived.Below
import Derived.SizedLaws
import Derived.Lib.SmallJoins
section
namespace Go.Proofs.Ytmcfgaokimlngaa.trendPlays
open Go.ChangeShapes Go.WideShapes Go.ChangeAt Go.RowKit Go.Proofs.YtmcfgaokimlngaaW.PrintWords Go.Proofs.Ytmcfgaokimlngaa.P
open Go.ChangeMaps (open_string shut_string)
set_option linter.unusedVariables false
theorem own : ownKnob Try.prog.godebug = none := by kernel_rfl
theorem laidOut : laidOutB Try.prog = true := by kernel_rfl
set_option maxRecDepth 100000 in
theorem cells_T36 {H : Type} {enc : TypeId × Value → H} {w : World} {base : Nat} {spare : Nat → Bool} {held : Bool} {fuel : Nat} {cs : List Value} {x : DataW H × List MemPlace} (h : DataW.trod enc Try.prog w base spare held fuel 36 cs = some x) :
    ∃ (a0 : Int) (a1 : Int), cs = [.int .i64 a0, .int .i64 a1] ∧ (Lit.int .i64 a0).wf = true ∧ (Lit.int .i64 a1).wf = true := by
  obtain ⟨xs, n, _, hx, hl, hlen, hg⟩ := DataW.trod_struct Try.underlying36 h
  have hl' : cs.length = 2 := hl.trans (by kernel_rfl)
  match cs, hl' with
  | [v0, v1], _ =>
    match xs, hlen with
    | [y0, y1], _ =>
      have g0 : DataW.trod enc Try.prog w base spare held n 2 (([v0, v1].drop 0).take (Try.prog.cellsOf 2)) = some y0 := hg 0 _ rfl
      rw [show Try.prog.cellsOf 2 = 1 from by kernel_rfl] at g0
      have k0 : DataW.trod enc Try.prog w base spare held n 2 [v0] = some y0 := g0
      have g1 : DataW.trod enc Try.prog w base spare held n 2 (([v0, v1].drop 1).take (Try.prog.cellsOf 2)) = some y1 := hg 1 _ rfl
      rw [show Try.prog.cellsOf 2 = 1 from by kernel_rfl] at g1
      have k1 : DataW.trod enc Try.prog w base spare held n 2 [v1] = some y1 := g1
      obtain ⟨b0, e0, _, w0⟩ := DataW.trod_int Try.underlying2 k0
      simp only [List.cons.injEq, and_true] at e0
      subst e0
      obtain ⟨b1, e1, _, w1⟩ := DataW.trod_int Try.underlying2 k1
      simp only [List.cons.injEq, and_true] at e1
      subst e1
      exact ⟨b0, b1, rfl, w0, w1⟩
set_option maxRecDepth 100000 in
theorem lifted (os : Os) (started : os.Started) (H : Type) (enc : TypeId × Value → H) :
    ReturnsInHanded {} Try.checked os 4 .any (Rows.trendPlaysSpec.pre6 enc Try.prog Try.f4 Rows.trendPlaysRow.domain false) (Rows.trendPlaysSpec.post enc Try.prog Try.f4 false true false false) := by
  refine returnsInHanded_of_change_sized (C := Try.checked) own started (by kernel_rfl) Try.func4
    (ChangeSpec.witness6 (enc := enc) (C := Try.checked) false ⟨#[], #[.int .i64 0, .int .i64 0, .slice none 0 0], []⟩ 8 (by kernel_rfl) (by kernel_rfl) (by kernel_rfl) (by kernel_rfl)) ?_
  intro W base args ds gs before hval0 hW hcnd hsz0 _
  have hsz : (DataW.weightsEach Try.prog (Try.f4.params.toList ++ Rows.trendPlaysSpec.plain.varTypes Try.prog) (ds ++ gs)).all (· ≤ reachBytes) = true := hsz0
  have hval : ∀ (j : Nat) t v, Try.f4.params[j]? = some t → args[j]? = some v → Value.okWide Try.prog W .any base t v := hval0
  have hW' := hW
  obtain ⟨p, q, hA0, hV, rfl, hfz, hnd⟩ := hW
  have hA : DataW.TrodAll enc Try.prog W 0 (fun _ => true) true Try.f4.params.toList args.toList ds p := hA0
  rw [Try.params4] at hA hval hsz
  obtain ⟨v0, vs0, d0, ds0, p0, q0, hargs, rfl, rfl, h0, r0⟩ := trodAll_cons hA
  obtain ⟨v1, vs1, d1, ds1, p1, q1, rfl, rfl, rfl, h1, r1⟩ := trodAll_cons r0
  obtain ⟨v2, vs2, d2, ds2, p2, q2, rfl, rfl, rfl, h2, r2⟩ := trodAll_cons r1
  obtain ⟨rfl, rfl, rfl⟩ := trodAll_nil r2
  obtain rfl : args = #[v0, v1, v2] := by cases args; simp_all
  obtain ⟨rfl, rfl⟩ := trodVars_none hV
  obtain ⟨a0, rfl, rfl, rfl, w0⟩ := open_int Try.underlying3 (hval 0 3 v0 rfl rfl) h0
  obtain ⟨a1, rfl, rfl, rfl, w1⟩ := open_int Try.underlying2 (hval 1 2 v1 rfl rfl) h1
  have k2 := h2
  have lt2 : ∀ x ∈ p2, x.block < W.heap.size := by obtain ⟨m, hm⟩ := k2; exact DataW.trod_lt m _ _ _ hm
  obtain ⟨A2, len2, c2, rfl⟩ := okWide_slice Try.underlying26 (hval 2 26 v2 rfl rfl)
  have y2 : len2 * 16 ≤ 140737488351232 := sized_rows hsz (j := 2) (t := 26) rfl rfl Try.underlying26 (by kernel_rfl) h2
  obtain ⟨l2, rfl, hl2, hcm2, hw2, hcell2⟩ := open_rows (fun y : S36 => [.int .i64 y.f0, .int .i64 y.f1]) (fun y => (Lit.int .i64 y.f0).wf = true ∧ (Lit.int .i64 y.f1).wf = true) 2 Try.underlying26 (by kernel_rfl) (fun fuel cs x hh => by
      obtain ⟨b0, b1, he, u0, u1⟩ := cells_T36 hh
      exact ⟨(⟨b0, b1⟩ : S36), he, ⟨u0, u1⟩⟩) h2
  have hr2 : Kd.C k36 W A2 l2.length l2 := ⟨rfl, by have := hcm2; unfold maxLen at this; omega, fun hz => by
    obtain ⟨ad, e, hc⟩ := hcell2 hz
    exact ⟨ad, e, fun j p hj => ⟨_, rfl, k36_mk W p, fun i u hu => hc j p hj i u hu⟩⟩⟩
  have hm2 : l2.length ≤ maxLen := Nat.le_trans hl2 hcm2
  clear hA0 hval0 hsz0 hsz
  refine (flywheellaw17_TrendPlays.walk Pure.TrendPlays a0 a1 A2 c2 l2 W w0 w1 hm2 y2 hw2 hr2 hl2).mono fun e W' ⟨he, bel⟩ => ?_
  subst he
  exact ⟨_, rfl, _, _, _, [], _, [], hW', trodAll_mk1 (shut_bool Try.underlying4 _), (trodAll_cons_mk (shut_int Try.underlying3 w0) (trodAll_cons_mk (shut_int Try.underlying2 w1) (trodAll_cons_mk (Below.trod laidOut (by kernel_rfl) (of_decide_eq_true (by kernel_rfl)) k2 bel lt2) trodAll_mk0))), rfl, bel.frame _, fun h => by cases h⟩
theorem over : Rows.trendPlaysRow.holds Try.pinned (OpenSpec.ofChange Rows.trendPlaysSpec) :=
  OpenClaim.holds_of_wide 4 Try.f4 rfl rfl rfl rfl rfl rfl rfl ⟨rfl, rfl, rfl, rfl, rfl⟩ rfl rfl rfl rfl rfl (by kernel_rfl) Try.func4 (by kernel_rfl)
    (of_decide_eq_true (by kernel_rfl)) (by unfold Func.isWrapper; first | (rw [if_pos (by decide +kernel)]; kernel_rfl) | (rw [if_neg (by decide +kernel)]; exact ⟨rfl, rfl⟩))
    (fun os started H enc _ => lifted os started H enc)
theorem proved : Rows.TrendPlaysSaid := over
#print axioms proved
end Go.Proofs.Ytmcfgaokimlngaa.trendPlays
namespace Go.Proofs.Ytmcfgaokimlngaa
theorem trendPlays_holds : Rows.TrendPlaysSaid := trendPlays.proved
end Go.Proofs.Ytmcfgaokimlngaa
end

-- PUT TOGETHER by a program of this session: of the claim's texts, what is used
import Derived.Test.YtlgfnclgkhfhpaaKAllocSums8
import Derived.Test.YtlgfnclgkhfhpaaKAllocSums9
import Derived.Test.YtlgfnclgkhfhpaaKAllocSums10
import Derived.Test.YtlgfnclgkhfhpaaKAllocSums11
import Derived.Test.YtlgfnclgkhfhpaaRows
import Derived.WalkKit
import Derived.ProofKit
import Derived.OpenShut
import Derived.ShutString
import Derived.ChangeOld
import Derived.Below
import Derived.SizedLaws
import Derived.Lib.SmallJoins
section
namespace Go.Proofs.Ytlgfnclgkhfhpaa.allocSums
open Go.ChangeShapes Go.WideShapes Go.ChangeAt Go.RowKit Go.Proofs.YtlgfnclgkhfhpaaW.PrintWords Go.Proofs.Ytlgfnclgkhfhpaa.P
open Go.ChangeMaps (open_string shut_string)
set_option linter.unusedVariables false
theorem own : ownKnob Try.prog.godebug = none := by kernel_rfl
theorem laidOut : laidOutB Try.prog = true := by kernel_rfl
theorem okWide_array {P : Program} {w : World} {r : Reach} {base : Nat} {t : TypeId} {v : Value} {N : Nat} {e : TypeId} (ht : P.underlying t = some (.array N e)) (h : Value.okWide P w r base t v) : ∃ cs, v = .agg cs ∧ cs.size = P.cellsOf t := by
  simp only [Value.okWide, ht] at h
  obtain ⟨cs, h1, h2, _⟩ := h
  exact ⟨cs, h1, h2⟩
set_option maxRecDepth 100000 in
theorem cells_T31 {H : Type} {enc : TypeId × Value → H} {w : World} {base : Nat} {spare : Nat → Bool} {held : Bool} {fuel : Nat} {cs : List Value} {x : DataW H × List MemPlace} (h : DataW.trod enc Try.prog w base spare held fuel 31 cs = some x) :
    ∃ (a0 : Int) (a1 : Int) (a2 : Int), cs = [.int .i64 a0, .int .i64 a1, .int .i64 a2] ∧ (Lit.int .i64 a0).wf = true ∧ (Lit.int .i64 a1).wf = true ∧ (Lit.int .i64 a2).wf = true := by
  obtain ⟨xs, n, _, hx, hl, hlen, hg⟩ := DataW.trod_struct Try.underlying31 h
  have hl' : cs.length = 3 := hl.trans (by kernel_rfl)
  match cs, hl' with
  | [v0, v1, v2], _ =>
    match xs, hlen with
    | [y0, y1, y2], _ =>
      have g0 : DataW.trod enc Try.prog w base spare held n 3 (([v0, v1, v2].drop 0).take (Try.prog.cellsOf 3)) = some y0 := hg 0 _ rfl
      rw [show Try.prog.cellsOf 3 = 1 from by kernel_rfl] at g0
      have k0 : DataW.trod enc Try.prog w base spare held n 3 [v0] = some y0 := g0
      have g1 : DataW.trod enc Try.prog w base spare held n 2 (([v0, v1, v2].drop 1).take (Try.prog.cellsOf 2)) = some y1 := hg 1 _ rfl
      rw [show Try.prog.cellsOf 2 = 1 from by kernel_rfl] at g1
      have k1 : DataW.trod enc Try.prog w base spare held n 2 [v1] = some y1 := g1
      have g2 : DataW.trod enc Try.prog w base spare held n 2 (([v0, v1, v2].drop 2).take (Try.prog.cellsOf 2)) = some y2 := hg 2 _ rfl
      rw [show Try.prog.cellsOf 2 = 1 from by kernel_rfl] at g2
      have k2 : DataW.trod enc Try.prog w base spare held n 2 [v2] = some y2 := g2
      obtain ⟨b0, e0, _, w0⟩ := DataW.trod_int Try.underlying3 k0
      simp only [List.cons.injEq, and_true] at e0
      subst e0
      obtain ⟨b1, e1, _, w1⟩ := DataW.trod_int Try.underlying2 k1
      simp only [List.cons.injEq, and_true] at e1
      subst e1
      obtain ⟨b2, e2, _, w2⟩ := DataW.trod_int Try.underlying2 k2
      simp only [List.cons.injEq, and_true] at e2
      subst e2
      exact ⟨b0, b1, b2, rfl, w0, w1, w2⟩
set_option maxRecDepth 100000 in
theorem cells_T57 {H : Type} {enc : TypeId × Value → H} {w : World} {base : Nat} {spare : Nat → Bool} {held : Bool} {fuel : Nat} {cs : List Value} {x : DataW H × List MemPlace} (h : DataW.trod enc Try.prog w base spare held fuel 57 cs = some x) :
    ∃ (a0 : Int) (a1 : Int), cs = [.int .i64 a0, .int .i64 a1] ∧ (Lit.int .i64 a0).wf = true ∧ (Lit.int .i64 a1).wf = true := by
  obtain ⟨xs, n, _, hx, hl, hlen, hg⟩ := DataW.trod_array Try.underlying57 h
  have hl' : cs.length = 2 := hl.trans (by kernel_rfl)
  match cs, hl' with
  | [v0, v1], _ =>
    match xs, hlen with
    | [y0, y1], _ =>
      have g0 : DataW.trod enc Try.prog w base spare held n 2 (([v0, v1].drop (0 * Try.prog.cellsOf 2)).take (Try.prog.cellsOf 2)) = some y0 := hg 0 (by decide)
      rw [show Try.prog.cellsOf 2 = 1 from by kernel_rfl] at g0
      have k0 : DataW.trod enc Try.prog w base spare held n 2 [v0] = some y0 := g0
      have g1 : DataW.trod enc Try.prog w base spare held n 2 (([v0, v1].drop (1 * Try.prog.cellsOf 2)).take (Try.prog.cellsOf 2)) = some y1 := hg 1 (by decide)
      rw [show Try.prog.cellsOf 2 = 1 from by kernel_rfl] at g1
      have k1 : DataW.trod enc Try.prog w base spare held n 2 [v1] = some y1 := g1
      obtain ⟨b0, e0, _, w0⟩ := DataW.trod_int Try.underlying2 k0
      simp only [List.cons.injEq, and_true] at e0
      subst e0
      obtain ⟨b1, e1, _, w1⟩ := DataW.trod_int Try.underlying2 k1
      simp only [List.cons.injEq, and_true] at e1
      subst e1
      exact ⟨b0, b1, rfl, w0, w1⟩
set_option maxRecDepth 100000 in
theorem lifted (os : Os) (started : os.Started) (H : Type) (enc : TypeId × Value → H) :
    ReturnsInHanded {} Try.checked os 11 .any (Rows.allocSumsSpec.pre6 enc Try.prog Try.f11 Rows.allocSumsRow.domain false) (Rows.allocSumsSpec.post enc Try.prog Try.f11 false true false false) := by
  refine returnsInHanded_of_change_sized (C := Try.checked) own started (by kernel_rfl) Try.func11
    (ChangeSpec.witness6 (enc := enc) (C := Try.checked) false ⟨#[], #[.int .i64 0, .slice none 0 0, .agg #[.int .i64 0, .int .i64 0]], []⟩ 8 (by kernel_rfl) (by kernel_rfl) (by kernel_rfl) (by kernel_rfl)) ?_
  intro W base args ds gs before hval0 hW hcnd hsz0 _
  have hsz : (DataW.weightsEach Try.prog (Try.f11.params.toList ++ Rows.allocSumsSpec.plain.varTypes Try.prog) (ds ++ gs)).all (· ≤ reachBytes) = true := hsz0
  have hval : ∀ (j : Nat) t v, Try.f11.params[j]? = some t → args[j]? = some v → Value.okWide Try.prog W .any base t v := hval0
  have hW' := hW
  obtain ⟨p, q, hA0, hV, rfl, hfz, hnd⟩ := hW
  have hA : DataW.TrodAll enc Try.prog W 0 (fun _ => true) true Try.f11.params.toList args.toList ds p := hA0
  rw [Try.params11] at hA hval hsz
  obtain ⟨v0, vs0, d0, ds0, p0, q0, hargs, rfl, rfl, h0, r0⟩ := trodAll_cons hA
  obtain ⟨v1, vs1, d1, ds1, p1, q1, rfl, rfl, rfl, h1, r1⟩ := trodAll_cons r0
  obtain ⟨v2, vs2, d2, ds2, p2, q2, rfl, rfl, rfl, h2, r2⟩ := trodAll_cons r1
  obtain ⟨rfl, rfl, rfl⟩ := trodAll_nil r2
  obtain rfl : args = #[v0, v1, v2] := by cases args; simp_all
  obtain ⟨rfl, rfl⟩ := trodVars_none hV
  obtain ⟨a0, rfl, rfl, rfl, w0⟩ := open_int Try.underlying2 (hval 0 2 v0 rfl rfl) h0
  have k1 := h1
  have lt1 : ∀ x ∈ p1, x.block < W.heap.size := by obtain ⟨m, hm⟩ := k1; exact DataW.trod_lt m _ _ _ hm
  obtain ⟨A1, len1, c1, rfl⟩ := okWide_slice Try.underlying22 (hval 1 22 v1 rfl rfl)
  have y1 : len1 * 24 ≤ 140737488351232 := sized_rows hsz (j := 1) (t := 22) rfl rfl Try.underlying22 (by kernel_rfl) h1
  obtain ⟨l1, rfl, hl1, hcm1, hw1, hcell1⟩ := open_rows (fun y : S31 => [.int .i64 y.f0, .int .i64 y.f1, .int .i64 y.f2]) (fun y => (Lit.int .i64 y.f0).wf = true ∧ (Lit.int .i64 y.f1).wf = true ∧ (Lit.int .i64 y.f2).wf = true) 3 Try.underlying22 (by kernel_rfl) (fun fuel cs x hh => by
      obtain ⟨b0, b1, b2, he, u0, u1, u2⟩ := cells_T31 hh
      exact ⟨(⟨b0, b1, b2⟩ : S31), he, ⟨u0, u1, u2⟩⟩) h1
  have hr1 : Kd.C k31 W A1 l1.length l1 := ⟨rfl, by have := hcm1; unfold maxLen at this; omega, fun hz => by
    obtain ⟨ad, e, hc⟩ := hcell1 hz
    exact ⟨ad, e, fun j p hj => ⟨_, rfl, k31_mk W p, fun i u hu => hc j p hj i u hu⟩⟩⟩
  have hm1 : l1.length ≤ maxLen := Nat.le_trans hl1 hcm1
  have k2 := h2
  have lt2 : ∀ x ∈ p2, x.block < W.heap.size := by obtain ⟨m, hm⟩ := k2; exact DataW.trod_lt m _ _ _ hm
  obtain ⟨cs2, rfl, hsz2⟩ := okWide_array Try.underlying57 (hval 2 57 v2 rfl rfl)
  obtain ⟨fu2, hf2⟩ := h2
  obtain ⟨a2_0, a2_1, he2, w2_0, w2_1⟩ := cells_T57 hf2
  obtain rfl : cs2 = #[.int .i64 a2_0, .int .i64 a2_1] := by simpa [Value.cells] using congrArg List.toArray he2
  clear hA0 hval0 hsz0 hsz
  refine (flywheellaw27_AllocSums.walk Pure.AllocSums a0 A1 c1 l1 a2_0 a2_1 W w0 hm1 y1 hw1 w2_0 w2_1 hr1 hl1).mono fun e W' ⟨he, bel⟩ => ?_
  subst he
  exact ⟨_, rfl, _, _, _, [], _, [], hW', trodAll_mk1 (shut_bool Try.underlying4 _), (trodAll_cons_mk (shut_int Try.underlying2 w0) (trodAll_cons_mk (Below.trod laidOut (by kernel_rfl) (of_decide_eq_true (by kernel_rfl)) k1 bel lt1) (trodAll_cons_mk (Below.trod laidOut (by kernel_rfl) (of_decide_eq_true (by kernel_rfl)) k2 bel lt2) trodAll_mk0))), rfl, bel.frame _, fun h => by cases h⟩
theorem over : Rows.allocSumsRow.holds Try.pinned (OpenSpec.ofChange Rows.allocSumsSpec) :=
  OpenClaim.holds_of_wide 11 Try.f11 rfl rfl rfl rfl rfl rfl rfl ⟨rfl, rfl, rfl, rfl, rfl⟩ rfl rfl rfl rfl rfl (by kernel_rfl) Try.func11 (by kernel_rfl)
    (of_decide_eq_true (by kernel_rfl)) (by unfold Func.isWrapper; first | (rw [if_pos (by decide +kernel)]; kernel_rfl) | (rw [if_neg (by decide +kernel)]; exact ⟨rfl, rfl⟩))
    (fun os started H enc _ => lifted os started H enc)
theorem proved : Rows.AllocSumsSaid := over
#print axioms proved
end Go.Proofs.Ytlgfnclgkhfhpaa.allocSums
namespace Go.Proofs.Ytlgfnclgkhfhpaa
theorem allocSums_holds : Rows.AllocSumsSaid := allocSums.proved
end Go.Proofs.Ytlgfnclgkhfhpaa
end

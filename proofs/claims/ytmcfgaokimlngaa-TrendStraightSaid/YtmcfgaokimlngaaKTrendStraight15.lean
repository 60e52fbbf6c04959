-- PUT TOGETHER by a program of this session: of the claim's texts, what is used
import Derived.Test.YtmcfgaokimlngaaKTrendStraight11
import Derived.Test.YtmcfgaokimlngaaKTrendStraight12
import Derived.Test.YtmcfgaokimlngaaKTrendStraight13
import Derived.Test.YtmcfgaokimlngaaKTrendStraight14
import Derived.Test.YtmcfgaokimlngaaRows
import Derived.WalkKit
import Derived.ProofKit
import Derived.OpenShut
import Derived.ShutString
import Derived.ChangeOld
import Derived.Below
import Derived.SizedLaws
import Derived.Lib.SmallJoins
section
namespace Go.Proofs.Ytmcfgaokimlngaa.trendStraight
open Go.ChangeShapes Go.WideShapes Go.ChangeAt Go.RowKit Go.Proofs.YtmcfgaokimlngaaW.PrintWords Go.Proofs.Ytmcfgaokimlngaa.P
open Go.ChangeMaps (open_string shut_string)
set_option linter.unusedVariables false
theorem own : ownKnob Try.prog.godebug = none := by kernel_rfl
theorem laidOut : laidOutB Try.prog = true := by kernel_rfl
def IsRow (k : IntKind) (w : World) (a : Option Addr) (len cap : Nat) (zs : List Int) : Prop :=
  (a = none ∧ len = 0 ∧ cap = 0 ∧ zs = []) ∨
  ∃ x, a = some x ∧ len ≤ cap ∧ cap ≤ maxLen ∧ zs.length = cap ∧ (∀ i, i < zs.length → w.cell? (x.add i) = some (.int k (zs.getD i 0))) ∧ ∀ n ∈ zs, (Lit.int k n).wf = true
theorem okWide_array {P : Program} {w : World} {r : Reach} {base : Nat} {t : TypeId} {v : Value} {N : Nat} {e : TypeId} (ht : P.underlying t = some (.array N e)) (h : Value.okWide P w r base t v) : ∃ cs, v = .agg cs ∧ cs.size = P.cellsOf t := by
  simp only [Value.okWide, ht] at h
  obtain ⟨cs, h1, h2, _⟩ := h
  exact ⟨cs, h1, h2⟩
set_option maxRecDepth 100000 in
theorem cells_T41 {H : Type} {enc : TypeId × Value → H} {w : World} {base : Nat} {spare : Nat → Bool} {held : Bool} {fuel : Nat} {cs : List Value} {x : DataW H × List MemPlace} (h : DataW.trod enc Try.prog w base spare held fuel 41 cs = some x) :
    ∃ (a0 : Int) (a1 : Int), cs = [.int .i32 a0, .int .i32 a1] ∧ (Lit.int .i32 a0).wf = true ∧ (Lit.int .i32 a1).wf = true := by
  obtain ⟨xs, n, _, hx, hl, hlen, hg⟩ := DataW.trod_array Try.underlying41 h
  have hl' : cs.length = 2 := hl.trans (by kernel_rfl)
  match cs, hl' with
  | [v0, v1], _ =>
    match xs, hlen with
    | [y0, y1], _ =>
      have g0 : DataW.trod enc Try.prog w base spare held n 21 (([v0, v1].drop (0 * Try.prog.cellsOf 21)).take (Try.prog.cellsOf 21)) = some y0 := hg 0 (by decide)
      rw [show Try.prog.cellsOf 21 = 1 from by kernel_rfl] at g0
      have k0 : DataW.trod enc Try.prog w base spare held n 21 [v0] = some y0 := g0
      have g1 : DataW.trod enc Try.prog w base spare held n 21 (([v0, v1].drop (1 * Try.prog.cellsOf 21)).take (Try.prog.cellsOf 21)) = some y1 := hg 1 (by decide)
      rw [show Try.prog.cellsOf 21 = 1 from by kernel_rfl] at g1
      have k1 : DataW.trod enc Try.prog w base spare held n 21 [v1] = some y1 := g1
      obtain ⟨b0, e0, _, w0⟩ := DataW.trod_int Try.underlying21 k0
      simp only [List.cons.injEq, and_true] at e0
      subst e0
      obtain ⟨b1, e1, _, w1⟩ := DataW.trod_int Try.underlying21 k1
      simp only [List.cons.injEq, and_true] at e1
      subst e1
      exact ⟨b0, b1, rfl, w0, w1⟩
set_option maxRecDepth 100000 in
theorem lifted (os : Os) (started : os.Started) (H : Type) (enc : TypeId × Value → H) :
    ReturnsInHanded {} Try.checked os 5 .any (Rows.trendStraightSpec.pre6 enc Try.prog Try.f5 Rows.trendStraightRow.domain false) (Rows.trendStraightSpec.post enc Try.prog Try.f5 false true false false) := by
  refine returnsInHanded_of_change_sized (C := Try.checked) own started (by kernel_rfl) Try.func5
    (ChangeSpec.witness6 (enc := enc) (C := Try.checked) false ⟨#[], #[.slice none 0 0, .agg #[.int .i32 0, .int .i32 0], .int .i8 0], []⟩ 8 (by kernel_rfl) (by kernel_rfl) (by kernel_rfl) (by kernel_rfl)) ?_
  intro W base args ds gs before hval0 hW hcnd hsz0 _
  have hsz : (DataW.weightsEach Try.prog (Try.f5.params.toList ++ Rows.trendStraightSpec.plain.varTypes Try.prog) (ds ++ gs)).all (· ≤ reachBytes) = true := hsz0
  have hval : ∀ (j : Nat) t v, Try.f5.params[j]? = some t → args[j]? = some v → Value.okWide Try.prog W .any base t v := hval0
  have hW' := hW
  obtain ⟨p, q, hA0, hV, rfl, hfz, hnd⟩ := hW
  have hA : DataW.TrodAll enc Try.prog W 0 (fun _ => true) true Try.f5.params.toList args.toList ds p := hA0
  rw [Try.params5] at hA hval hsz
  obtain ⟨v0, vs0, d0, ds0, p0, q0, hargs, rfl, rfl, h0, r0⟩ := trodAll_cons hA
  obtain ⟨v1, vs1, d1, ds1, p1, q1, rfl, rfl, rfl, h1, r1⟩ := trodAll_cons r0
  obtain ⟨v2, vs2, d2, ds2, p2, q2, rfl, rfl, rfl, h2, r2⟩ := trodAll_cons r1
  obtain ⟨rfl, rfl, rfl⟩ := trodAll_nil r2
  obtain rfl : args = #[v0, v1, v2] := by cases args; simp_all
  obtain ⟨rfl, rfl⟩ := trodVars_none hV
  have k0 := h0
  have lt0 : ∀ x ∈ p0, x.block < W.heap.size := by obtain ⟨m, hm⟩ := k0; exact DataW.trod_lt m _ _ _ hm
  obtain ⟨A0, len0, c0, rfl⟩ := okWide_slice Try.underlying40 (hval 0 40 v0 rfl rfl)
  obtain ⟨z0, wz0⟩ : ∃ zs, IsRow .i16 W A0 len0 c0 zs := by
    obtain ⟨fuel, hf⟩ := h0
    rcases open_ints Try.underlying40 Try.underlying43 (by kernel_rfl) hf with ⟨hcs, _⟩ | ⟨x, l, c, zs, hcs, _, hl, hm, hz, _, hcell, hwz⟩
    · simp [Value.cells] at hcs
      obtain ⟨rfl, rfl, rfl⟩ := hcs
      exact ⟨[], .inl ⟨rfl, rfl, rfl, rfl⟩⟩
    · simp [Value.cells] at hcs
      obtain ⟨rfl, rfl, rfl⟩ := hcs
      exact ⟨zs, .inr ⟨_, rfl, hl, hm, by simpa using hz, hcell, hwz⟩⟩
  have y0 : len0 * 2 ≤ 140737488351232 := sized_ints hsz (j := 0) (t := 40) rfl rfl Try.underlying40 Try.underlying43 (by kernel_rfl) (by kernel_rfl) h0
  obtain ⟨l0, rfl, hri0, hm0, hw0, hc0⟩ := ReadsInt.ofRowC wz0
  have hr0 := (Kd.C_of_reads (d := (0 : Int)) (h1 := fun _ => rfl) hri0)
  have k1 := h1
  have lt1 : ∀ x ∈ p1, x.block < W.heap.size := by obtain ⟨m, hm⟩ := k1; exact DataW.trod_lt m _ _ _ hm
  obtain ⟨cs1, rfl, hsz1⟩ := okWide_array Try.underlying41 (hval 1 41 v1 rfl rfl)
  obtain ⟨fu1, hf1⟩ := h1
  obtain ⟨a1_0, a1_1, he1, w1_0, w1_1⟩ := cells_T41 hf1
  obtain rfl : cs1 = #[.int .i32 a1_0, .int .i32 a1_1] := by simpa [Value.cells] using congrArg List.toArray he1
  obtain ⟨a2, rfl, rfl, rfl, w2⟩ := open_int Try.underlying42 (hval 2 42 v2 rfl rfl) h2
  clear hA0 hval0 hsz0 hsz
  refine (flywheellaw17_TrendStraight.walk Pure.TrendStraight A0 c0 l0 a1_0 a1_1 a2 W hm0 y0 hw0 w1_0 w1_1 w2 hr0 hc0).mono fun e W' ⟨he, bel⟩ => ?_
  subst he
  exact ⟨_, rfl, _, _, _, [], _, [], hW', trodAll_mk1 (shut_bool Try.underlying4 _), (trodAll_cons_mk (Below.trod laidOut (by kernel_rfl) (of_decide_eq_true (by kernel_rfl)) k0 bel lt0) (trodAll_cons_mk (Below.trod laidOut (by kernel_rfl) (of_decide_eq_true (by kernel_rfl)) k1 bel lt1) (trodAll_cons_mk (shut_int Try.underlying42 w2) trodAll_mk0))), rfl, bel.frame _, fun h => by cases h⟩
theorem over : Rows.trendStraightRow.holds Try.pinned (OpenSpec.ofChange Rows.trendStraightSpec) :=
  OpenClaim.holds_of_wide 5 Try.f5 rfl rfl rfl rfl rfl rfl rfl ⟨rfl, rfl, rfl, rfl, rfl⟩ rfl rfl rfl rfl rfl (by kernel_rfl) Try.func5 (by kernel_rfl)
    (of_decide_eq_true (by kernel_rfl)) (by unfold Func.isWrapper; first | (rw [if_pos (by decide +kernel)]; kernel_rfl) | (rw [if_neg (by decide +kernel)]; exact ⟨rfl, rfl⟩))
    (fun os started H enc _ => lifted os started H enc)
theorem proved : Rows.TrendStraightSaid := over
#print axioms proved
end Go.Proofs.Ytmcfgaokimlngaa.trendStraight
namespace Go.Proofs.Ytmcfgaokimlngaa
theorem trendStraight_holds : Rows.TrendStraightSaid := trendStraight.proved
end Go.Proofs.Ytmcfgaokimlngaa
end

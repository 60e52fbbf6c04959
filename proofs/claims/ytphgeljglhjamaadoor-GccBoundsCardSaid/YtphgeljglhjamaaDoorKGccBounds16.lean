-- PUT TOGETHER by a program of this session: of the claim's texts, what is used
import Derived.Test.YtphgeljglhjamaaDoorKGccBounds12
import Derived.Test.YtphgeljglhjamaaDoorRows
import Derived.ProofKit
import Derived.LaidMore
import Derived.OpenShut
import Derived.Stop.Joined
section
namespace Go.Proofs.YtphgeljglhjamaaDoor.P
open Go.ChangeShapes Go.WideShapes Go.ChangeAt Go.WideMaps Go.WideElems Go.RowKit
set_option linter.unusedVariables false
def laidG : List (String × DataW Unit) := [("flywheel/lossy.rows", Rows.laid_flywheel_lossy_rows)]
theorem gRows : Tryd.prog.globalNamed "flywheel/lossy.rows" = some 0 := by kernel_rfl
theorem tRows : (Tryd.prog.globals[0]?).map (·.type) = some 107 := by kernel_rfl
theorem door_met (os : Os) (args : Array Value) : laidMetH Tryd.prog laidG ((World.doorLaid Tryd.prog 400 os).forCall (fun _ _ => 0) ⟨#[], args, []⟩).memory :=
  laidMetH_of_parts3 (fuel := 8) (laidMet_of_run' 8 (by kernel_rfl) (by kernel_rfl)) (by kernel_rfl) (by kernel_rfl)
set_option maxRecDepth 100000 in
theorem row_cells {H : Type} {enc : TypeId × Value → H} {w : World} {base : Nat} {spare : Nat → Bool} {held : Bool} {fuel : Nat} {cs : List Value} {x : DataW H × List MemPlace} {e0 e1 e2 e3 e4 : Int}
    (h : DataW.trod enc Tryd.prog w base spare held fuel 106 cs = some x) (hx : x.1 = .agg [.lit (.int .i64 e0), .lit (.int .i64 e1), .lit (.int .i64 e2), .lit (.int .i64 e3), .lit (.int .i64 e4)]) :
    cs = [.int .i64 e0, .int .i64 e1, .int .i64 e2, .int .i64 e3, .int .i64 e4] := by
  obtain ⟨xs, n, _, hx', hl, hlen, hg⟩ := DataW.trod_struct Tryd.underlying106 h
  have hl' : cs.length = 5 := hl.trans (by kernel_rfl)
  subst hx'
  match cs, hl' with
  | [v0, v1, v2, v3, v4], _ =>
    match xs, hlen with
    | [y0, y1, y2, y3, y4], _ =>
      simp only [List.map_cons, List.map_nil, DataW.agg.injEq, List.cons.injEq, and_true] at hx
      obtain ⟨d0, d1, d2, d3, d4⟩ := hx
      have g0 : DataW.trod enc Tryd.prog w base spare held n 2 (([v0, v1, v2, v3, v4].drop 0).take (Tryd.prog.cellsOf 2)) = some y0 := hg 0 _ rfl
      rw [show Tryd.prog.cellsOf 2 = 1 from by kernel_rfl] at g0
      have k0 : DataW.trod enc Tryd.prog w base spare held n 2 [v0] = some y0 := g0
      obtain ⟨b0, c0, z0, _⟩ := DataW.trod_int Tryd.underlying2 k0
      rw [z0] at d0
      obtain rfl : b0 = e0 := by simpa using d0
      have q0 : v0 = .int .i64 b0 := by simpa using c0
      have g1 : DataW.trod enc Tryd.prog w base spare held n 2 (([v0, v1, v2, v3, v4].drop 1).take (Tryd.prog.cellsOf 2)) = some y1 := hg 1 _ rfl
      rw [show Tryd.prog.cellsOf 2 = 1 from by kernel_rfl] at g1
      have k1 : DataW.trod enc Tryd.prog w base spare held n 2 [v1] = some y1 := g1
      obtain ⟨b1, c1, z1, _⟩ := DataW.trod_int Tryd.underlying2 k1
      rw [z1] at d1
      obtain rfl : b1 = e1 := by simpa using d1
      have q1 : v1 = .int .i64 b1 := by simpa using c1
      have g2 : DataW.trod enc Tryd.prog w base spare held n 2 (([v0, v1, v2, v3, v4].drop 2).take (Tryd.prog.cellsOf 2)) = some y2 := hg 2 _ rfl
      rw [show Tryd.prog.cellsOf 2 = 1 from by kernel_rfl] at g2
      have k2 : DataW.trod enc Tryd.prog w base spare held n 2 [v2] = some y2 := g2
      obtain ⟨b2, c2, z2, _⟩ := DataW.trod_int Tryd.underlying2 k2
      rw [z2] at d2
      obtain rfl : b2 = e2 := by simpa using d2
      have q2 : v2 = .int .i64 b2 := by simpa using c2
      have g3 : DataW.trod enc Tryd.prog w base spare held n 2 (([v0, v1, v2, v3, v4].drop 3).take (Tryd.prog.cellsOf 2)) = some y3 := hg 3 _ rfl
      rw [show Tryd.prog.cellsOf 2 = 1 from by kernel_rfl] at g3
      have k3 : DataW.trod enc Tryd.prog w base spare held n 2 [v3] = some y3 := g3
      obtain ⟨b3, c3, z3, _⟩ := DataW.trod_int Tryd.underlying2 k3
      rw [z3] at d3
      obtain rfl : b3 = e3 := by simpa using d3
      have q3 : v3 = .int .i64 b3 := by simpa using c3
      have g4 : DataW.trod enc Tryd.prog w base spare held n 2 (([v0, v1, v2, v3, v4].drop 4).take (Tryd.prog.cellsOf 2)) = some y4 := hg 4 _ rfl
      rw [show Tryd.prog.cellsOf 2 = 1 from by kernel_rfl] at g4
      have k4 : DataW.trod enc Tryd.prog w base spare held n 2 [v4] = some y4 := g4
      obtain ⟨b4, c4, z4, _⟩ := DataW.trod_int Tryd.underlying2 k4
      rw [z4] at d4
      obtain rfl : b4 = e4 := by simpa using d4
      have q4 : v4 = .int .i64 b4 := by simpa using c4
      rw [q0, q1, q2, q3, q4]
set_option maxRecDepth 100000 in
theorem of_laid {W : World} (h : laidMetH Tryd.prog laidG W) : GL W := by
  rw [MakeChecks.laidMetH_plain _ _ _ (by kernel_rfl)] at h
  obtain ⟨ps, ⟨g0, t0, cs0, f0, p0, q0, hg0, ht0, hv0, hd0, _, _⟩, _, _⟩ := h
  obtain rfl := Option.some.inj (gRows.symm.trans hg0)
  obtain rfl := Option.some.inj (tRows.symm.trans ht0)
  obtain ⟨xs, m, _, hx, hl, hlen, hel⟩ := DataW.trod_array Tryd.underlying107 hd0
  have c106 : Tryd.prog.cellsOf 106 = 5 := by kernel_rfl
  rw [c106] at hel
  have hx1 := congrArg Prod.fst hx
  have hl' : cs0.toList.length = 15 := hl.trans (by kernel_rfl)
  match xs, hlen, hx1, hel with
  | [x0, x1, x2], _, hx1, hel =>
    simp only [Rows.laid_flywheel_lossy_rows, List.map_cons, List.map_nil, DataW.agg.injEq, List.cons.injEq, and_true] at hx1
    obtain ⟨e0, e1, e2⟩ := hx1
    have r0 := row_cells (show _ = some x0 from hel 0 (by decide)) e0.symm
    have r1 := row_cells (show _ = some x1 from hel 1 (by decide)) e1.symm
    have r2 := row_cells (show _ = some x2 from hel 2 (by decide)) e2.symm
    have hc : cs0.toList = [.int .i64 5, .int .i64 105, .int .i64 100, .int .i64 1000, .int .i64 0, .int .i64 26, .int .i64 1, .int .i64 1, .int .i64 0, .int .i64 0, .int .i64 256, .int .i64 512, .int .i64 512, .int .i64 0, .int .i64 1] := by
      have a0 : cs0.toList = cs0.toList.take 5 ++ ((cs0.toList.drop 5).take 5 ++ (cs0.toList.drop 10).take 5) := by
        rw [show ((cs0.toList.drop 10).take 5) = cs0.toList.drop 10 from List.take_of_length_le (by simp; simp at hl'; omega)]
        rw [show cs0.toList.drop 10 = (cs0.toList.drop 5).drop 5 from by rw [List.drop_drop], List.take_append_drop, List.take_append_drop]
      rw [a0]
      have b0 : cs0.toList.take 5 = _ := r0
      have b1 : (cs0.toList.drop 5).take 5 = _ := r1
      have b2 : (cs0.toList.drop 10).take 5 = _ := r2
      rw [b0, b1, b2]
      rfl
    have key : ∀ j, W.cell? ⟨0, j, none⟩ = cs0[j]? := fun j => World.var?_cell hg0 hv0 j
    obtain ⟨l⟩ := cs0
    have hc' : l = _ := hc
    subst hc'
    exact ⟨(key 0).trans rfl, (key 1).trans rfl, (key 2).trans rfl, (key 3).trans rfl, (key 4).trans rfl, (key 5).trans rfl, (key 6).trans rfl, (key 7).trans rfl, (key 8).trans rfl, (key 9).trans rfl, (key 10).trans rfl, (key 11).trans rfl, (key 12).trans rfl, (key 13).trans rfl, (key 14).trans rfl⟩
end Go.Proofs.YtphgeljglhjamaaDoor.P
end

-- PUT TOGETHER by a program of this session: of the claim's texts, what is used
import Derived.Test.YtphgeljglhjamaaDoorKGccBounds0
import Derived.Test.YtphgeljglhjamaaDoorKGccBounds1
import Derived.Test.YtphgeljglhjamaaDoorKGccBounds2
import Derived.Test.YtphgeljglhjamaaDoorKGccBounds3
import Derived.Test.YtphgeljglhjamaaDoorKGccBounds4
import Derived.Test.YtphgeljglhjamaaDoorKGccBounds5
import Derived.Test.YtphgeljglhjamaaDoorKGccBounds6
import Derived.Test.YtphgeljglhjamaaDoorKGccBounds7
import Derived.Test.YtphgeljglhjamaaDoorProg
import Derived.Below
import Derived.Deep.Draws
import Derived.Deep.AppendLies
import Derived.Maps.AppendAt
import Derived.OwnWalk
import Derived.Laws.BytesArg
import Derived.Laws.MakeOwn
import Derived.Laws.OwnMore
import Derived.Deep.OwnRows
import Derived.Tactics
import Derived.Lib.ConvBytes
import Derived.Laws.Slices
import Derived.WalkKit
import Derived.KernelRfl
import Derived.RowKit3
import Derived.Deep.LoopGhost
import Derived.Deep.QuietTactic
import Derived.BigQuiet
import Derived.WideLaws
import Derived.Deep.DeepCutAuto
import Derived.Deep.CutBlock
import Derived.Deep.RegionHeld3
import Derived.Laws.Rows
import Derived.Lib.AppendStr
import Derived.ArgAppend
import Derived.Laws.IdiomCopy
import Derived.OrdersHeld
import Derived.Laws.BitsLemmas
import Derived.RowKit
import Derived.Laws.Externs
import Derived.Lib.Mul64
section
namespace Go.Proofs.YtphgeljglhjamaaDoor.P
open Go.RowKit Go.Proofs.YtphgeljglhjamaaDoorW.PrintWords Go.Proofs.YtphgeljglhjamaaDoorW.PrintLast Go.Proofs.YtphgeljglhjamaaDoorW.PrintMore
attribute [local go_sem] max2_int min2_int max_two min_two max_three min_three max_four min_four
set_option linter.unusedVariables false
set_option linter.unusedSimpArgs false
def errW : Option Int → Value
 | none => .nilIface
 | some c => .iface 0 (.int .i64 c)
theorem errW_none : errW none = .nilIface := rfl
theorem errW_some (c : Int) : errW (some c) = .iface 0 (.int .i64 c) := rfl
theorem info2 : (Tryd.prog.info? 2).map (fun i => (i.zero, i.size, i.bytes)) = some (some (.int .i64 0), 1, 8) := by kernel_rfl
theorem info41 : (Tryd.prog.info? 41).map (fun i => (i.zero, i.size, i.bytes)) = some (some (.agg #[(.int .i64 0), (.int .i64 0), (.int .i64 0), (.int .i64 0), (.bool false), (.bool false)]), 6, 40) := by kernel_rfl
structure S39 where
 f0 : Int
 f1 : Int
 f2 : Int
def z39 : S39 := ⟨(0 : Int), (0 : Int), (0 : Int)⟩
def k39 : Kd S39 := Kd.iso (Kd.pair (Kd.int .i64) (Kd.pair (Kd.int .i64) (Kd.int .i64))) (fun x : S39 => (x.f0, x.f1, x.f2))
theorem k39_open {w : World} {x : S39} {cs : List Value} (h : k39.K w x cs) : cs = [.int .i64 x.f0, .int .i64 x.f1, .int .i64 x.f2] := by
 obtain ⟨_, _, rfl, rfl, ⟨_, _, rfl, rfl, rfl⟩⟩ := h
 exact rfl
theorem k39_mk (w : World) (x : S39)  : k39.K w x [.int .i64 x.f0, .int .i64 x.f1, .int .i64 x.f2] := ⟨[.int .i64 x.f0], [.int .i64 x.f1, .int .i64 x.f2], rfl, rfl, ⟨[.int .i64 x.f1], [.int .i64 x.f2], rfl, rfl, rfl⟩⟩
structure S41 where
 f0 : S39
 f1 : Int
 f2 : Bool
 f3 : Bool
def z41 : S41 := ⟨z39, (0 : Int), false, false⟩
def k41 : Kd S41 := Kd.iso (Kd.pair k39 (Kd.pair (Kd.int .i64) (Kd.pair Kd.bool Kd.bool))) (fun x : S41 => (x.f0, x.f1, x.f2, x.f3))
theorem k41_open {w : World} {x : S41} {cs : List Value} (h : k41.K w x cs) : cs = [.int .i64 x.f0.f0, .int .i64 x.f0.f1, .int .i64 x.f0.f2, .int .i64 x.f1, .bool x.f2, .bool x.f3] := by
 obtain ⟨_, _, rfl, s0, ⟨_, _, rfl, rfl, ⟨_, _, rfl, rfl, rfl⟩⟩⟩ := h
 obtain rfl := k39_open s0
 exact rfl
theorem k41_mk (w : World) (x : S41)  : k41.K w x [.int .i64 x.f0.f0, .int .i64 x.f0.f1, .int .i64 x.f0.f2, .int .i64 x.f1, .bool x.f2, .bool x.f3] := ⟨[.int .i64 x.f0.f0, .int .i64 x.f0.f1, .int .i64 x.f0.f2], [.int .i64 x.f1, .bool x.f2, .bool x.f3], rfl, (k39_mk w x.f0 ), ⟨[.int .i64 x.f1], [.bool x.f2, .bool x.f3], rfl, rfl, ⟨[.bool x.f2], [.bool x.f3], rfl, rfl, rfl⟩⟩⟩
def rd_T41 (xs : List S41) (i : Int) : S41 := xs.getD i.toNat z41
theorem at_T41 {w : World} {A : Option Addr} {n : Nat} {xs : List S41} (h : Kd.C k41 w A n xs) (i : Int) (h0 : 0 ≤ i) (h1 : i < n) : ∃ ad , A = some ad ∧ w.cell? (ad.add (i.toNat * 6)) = some (.int .i64 (rd_T41 xs i).f0.f0) ∧ w.cell? ⟨(ad.add (i.toNat * 6)).block, (ad.add (i.toNat * 6)).off + 1, none⟩ = some (.int .i64 (rd_T41 xs i).f0.f1) ∧ w.cell? ⟨(ad.add (i.toNat * 6)).block, (ad.add (i.toNat * 6)).off + 2, none⟩ = some (.int .i64 (rd_T41 xs i).f0.f2) ∧ w.cell? ⟨(ad.add (i.toNat * 6)).block, (ad.add (i.toNat * 6)).off + 3, none⟩ = some (.int .i64 (rd_T41 xs i).f1) ∧ w.cell? ⟨(ad.add (i.toNat * 6)).block, (ad.add (i.toNat * 6)).off + 4, none⟩ = some (.bool (rd_T41 xs i).f2) ∧ w.cell? ⟨(ad.add (i.toNat * 6)).block, (ad.add (i.toNat * 6)).off + 5, none⟩ = some (.bool (rd_T41 xs i).f3) := by
 obtain ⟨ad, c, e, _, hK, hc0⟩ := Kd.C_get h z41 i h0 h1
 have hc : ∀ j u, c[j]? = some u → w.cell? (ad.add (i.toNat * 6 + j)) = some u := hc0
 obtain rfl := k41_open hK
 exact ⟨ad, e, hc 0 _ rfl, by rw [← add_field _ _ 1 (by omega)]; exact hc 1 _ rfl, by rw [← add_field _ _ 2 (by omega)]; exact hc 2 _ rfl, by rw [← add_field _ _ 3 (by omega)]; exact hc 3 _ rfl, by rw [← add_field _ _ 4 (by omega)]; exact hc 4 _ rfl, by rw [← add_field _ _ 5 (by omega)]; exact hc 5 _ rfl⟩
structure S33 where
 f0 : (List S41)
 f1 : Int
 f2 : Int
 f3 : Int
def z33 : S33 := ⟨([] : List S41), (0 : Int), (0 : Int), (0 : Int)⟩
def k33 : Kd S33 := Kd.iso (Kd.pair (Kd.slice 41 k41) (Kd.pair (Kd.int .i64) (Kd.pair (Kd.int .i64) (Kd.int .i64)))) (fun x : S33 => (x.f0, x.f1, x.f2, x.f3))
theorem k33_open {w : World} {x : S33} {cs : List Value} (h : k33.K w x cs) : ∃ A0 c0, cs = [.slice A0 x.f0.length c0, .int .i64 x.f1, .int .i64 x.f2, .int .i64 x.f3] ∧ x.f0.length ≤ c0 ∧ k41.C w A0 x.f0.length x.f0 := by
 obtain ⟨_, _, rfl, ⟨A0, c0, rfl, l0, g0⟩, ⟨_, _, rfl, rfl, ⟨_, _, rfl, rfl, rfl⟩⟩⟩ := h
 exact ⟨A0, c0, rfl, l0, g0⟩
theorem k33_mk (w : World) (x : S33) {A0 : Option Addr} {c0 : Nat} (l0 : x.f0.length ≤ c0) (g0 : k41.C w A0 x.f0.length x.f0) : k33.K w x [.slice A0 x.f0.length c0, .int .i64 x.f1, .int .i64 x.f2, .int .i64 x.f3] := ⟨[.slice A0 x.f0.length c0], [.int .i64 x.f1, .int .i64 x.f2, .int .i64 x.f3], rfl, ⟨A0, c0, rfl, l0, g0⟩, ⟨[.int .i64 x.f1], [.int .i64 x.f2, .int .i64 x.f3], rfl, rfl, ⟨[.int .i64 x.f2], [.int .i64 x.f3], rfl, rfl, rfl⟩⟩⟩
def rd_T33 (xs : List S33) (i : Int) : S33 := xs.getD i.toNat z33
theorem at_T33 {w : World} {A : Option Addr} {n : Nat} {xs : List S33} (h : Kd.C k33 w A n xs) (i : Int) (h0 : 0 ≤ i) (h1 : i < n) : ∃ ad A0 c0, A = some ad ∧ w.cell? (ad.add (i.toNat * 4)) = some (.slice A0 (rd_T33 xs i).f0.length c0) ∧ w.cell? ⟨(ad.add (i.toNat * 4)).block, (ad.add (i.toNat * 4)).off + 1, none⟩ = some (.int .i64 (rd_T33 xs i).f1) ∧ w.cell? ⟨(ad.add (i.toNat * 4)).block, (ad.add (i.toNat * 4)).off + 2, none⟩ = some (.int .i64 (rd_T33 xs i).f2) ∧ w.cell? ⟨(ad.add (i.toNat * 4)).block, (ad.add (i.toNat * 4)).off + 3, none⟩ = some (.int .i64 (rd_T33 xs i).f3) ∧ (rd_T33 xs i).f0.length ≤ c0 ∧ k41.C w A0 (rd_T33 xs i).f0.length (rd_T33 xs i).f0 := by
 obtain ⟨ad, c, e, _, hK, hc0⟩ := Kd.C_get h z33 i h0 h1
 have hc : ∀ j u, c[j]? = some u → w.cell? (ad.add (i.toNat * 4 + j)) = some u := hc0
 obtain ⟨A0, c0, rfl, l0, g0⟩ := k33_open hK
 exact ⟨ad, A0, c0, e, hc 0 _ rfl, by rw [← add_field _ _ 1 (by omega)]; exact hc 1 _ rfl, by rw [← add_field _ _ 2 (by omega)]; exact hc 2 _ rfl, by rw [← add_field _ _ 3 (by omega)]; exact hc 3 _ rfl, l0, g0⟩
end Go.Proofs.YtphgeljglhjamaaDoor.P
end

section
namespace Go.Proofs.YtphgeljglhjamaaDoor.P
open Go.RowKit Go.Proofs.YtphgeljglhjamaaDoorW.PrintWords Go.Proofs.YtphgeljglhjamaaDoorW.PrintLast Go.Proofs.YtphgeljglhjamaaDoorW.PrintMore
attribute [local go_sem] max2_int min2_int max_two min_two max_three min_three max_four min_four
set_option linter.unusedVariables false
set_option linter.unusedSimpArgs false
def IsS76 (w0 W : World) (g : Nat) (f0 : Int) (f1 : Int) (f2 : Int) (f3 : Int) (f4 : Bool) (f5 : Int) (f6 : Int) (f7 : Bool) (f8 : Int) : Prop := W.heap[g]? = some (.cells #[.int .i64 f0, .int .i64 f1, .int .i64 f2, .int .i64 f3, .bool f4, .int .i64 f5, .int .i64 f6, .bool f7, .int .i64 f8] 76 (0, 0)) ∧ w0.heap.size ≤ g
theorem IsS76.grown {w0 W : World} {g : Nat} {f0 : Int} {f1 : Int} {f2 : Int} {f3 : Int} {f4 : Bool} {f5 : Int} {f6 : Int} {f7 : Bool} {f8 : Int} {W1 : World} {row : Option Nat} (h : IsS76 w0 W g f0 f1 f2 f3 f4 f5 f6 f7 f8) (hw : W.grownBy W1 row) (hne : some g ≠ row) : IsS76 w0 W1 g f0 f1 f2 f3 f4 f5 f6 f7 f8 := by
 obtain ⟨hb, hg⟩ := h
 exact ⟨blk_grown hb hw hne, hg⟩
theorem IsS76.fresh {w0 W : World} {g : Nat} {f0 : Int} {f1 : Int} {f2 : Int} {f3 : Int} {f4 : Bool} {f5 : Int} {f6 : Int} {f7 : Bool} {f8 : Int} (h : IsS76 w0 W g f0 f1 f2 f3 f4 f5 f6 f7 f8) : ∀ k, W.heap.size ≤ k → k ≠ g := by
 obtain ⟨hb, hg⟩ := h
 exact Kd.freshB hb
theorem IsS76.blk {w0 W : World} {g : Nat} {f0 : Int} {f1 : Int} {f2 : Int} {f3 : Int} {f4 : Bool} {f5 : Int} {f6 : Int} {f7 : Bool} {f8 : Int} (h : IsS76 w0 W g f0 f1 f2 f3 f4 f5 f6 f7 f8) : ∃ cs, W.heap[g]? = some (.cells cs 76 (0, 0)) := by
 obtain ⟨hb, hg⟩ := h
 exact ⟨_, hb⟩
theorem IsS76.below {w0 W : World} {g : Nat} {f0 : Int} {f1 : Int} {f2 : Int} {f3 : Int} {f4 : Bool} {f5 : Int} {f6 : Int} {f7 : Bool} {f8 : Int} {W1 : World} (h : IsS76 w0 W g f0 f1 f2 f3 f4 f5 f6 f7 f8) (hw : Below W.heap.size W W1) : IsS76 w0 W1 g f0 f1 f2 f3 f4 f5 f6 f7 f8 := h.grown (grown_of_below hw none) (by simp)
theorem IsS76.alloc {w0 W : World} {g : Nat} {f0 : Int} {f1 : Int} {f2 : Int} {f3 : Int} {f4 : Bool} {f5 : Int} {f6 : Int} {f7 : Bool} {f8 : Int} (h : IsS76 w0 W g f0 f1 f2 f3 f4 f5 f6 f7 f8) (o : Obj) : IsS76 w0 (W.alloc o) g f0 f1 f2 f3 f4 f5 f6 f7 f8 := h.below (below_alloc bR o)
theorem IsS76.drewN {w0 W : World} {g : Nat} {f0 : Int} {f1 : Int} {f2 : Int} {f3 : Int} {f4 : Bool} {f5 : Int} {f6 : Int} {f7 : Bool} {f8 : Int} (h : IsS76 w0 W g f0 f1 f2 f3 f4 f5 f6 f7 f8) (m : Nat) : IsS76 w0 (W.drewN m) g f0 f1 f2 f3 f4 f5 f6 f7 f8 := h
theorem IsS76.drew {w0 W : World} {g : Nat} {f0 : Int} {f1 : Int} {f2 : Int} {f3 : Int} {f4 : Bool} {f5 : Int} {f6 : Int} {f7 : Bool} {f8 : Int} (h : IsS76 w0 W g f0 f1 f2 f3 f4 f5 f6 f7 f8) : IsS76 w0 W.drew g f0 f1 f2 f3 f4 f5 f6 f7 f8 := h
theorem IsS76.lt {w0 W : World} {g : Nat} {f0 : Int} {f1 : Int} {f2 : Int} {f3 : Int} {f4 : Bool} {f5 : Int} {f6 : Int} {f7 : Bool} {f8 : Int} (h : IsS76 w0 W g f0 f1 f2 f3 f4 f5 f6 f7 f8) : g < W.heap.size := by
 obtain ⟨hb, hg⟩ := h
 exact blk_lt hb
theorem IsS76.ge {w0 W : World} {g : Nat} {f0 : Int} {f1 : Int} {f2 : Int} {f3 : Int} {f4 : Bool} {f5 : Int} {f6 : Int} {f7 : Bool} {f8 : Int} (h : IsS76 w0 W g f0 f1 f2 f3 f4 f5 f6 f7 f8) : w0.heap.size ≤ g := by
 obtain ⟨hb, hg⟩ := h
 exact hg
theorem IsS76.ne_blk {w0 W : World} {g : Nat} {f0 : Int} {f1 : Int} {f2 : Int} {f3 : Int} {f4 : Bool} {f5 : Int} {f6 : Int} {f7 : Bool} {f8 : Int} {a : Nat} {cs : Array Value} {t : TypeId} {fr : Nat × Nat} (h : IsS76 w0 W g f0 f1 f2 f3 f4 f5 f6 f7 f8) (hb2 : W.heap[a]? = some (.cells cs t fr)) (ht : t ≠ 76) : g ≠ a := by
 obtain ⟨hb, hg⟩ := h
 rintro rfl
 rw [hb] at hb2
 injection hb2 with hb2
 injection hb2 with _ ht2
 exact ht ht2.symm
theorem IsS76.far {w0 W : World} {g : Nat} {f0 : Int} {f1 : Int} {f2 : Int} {f3 : Int} {f4 : Bool} {f5 : Int} {f6 : Int} {f7 : Bool} {f8 : Int} {p : Addr} (h : IsS76 w0 W g f0 f1 f2 f3 f4 f5 f6 f7 f8) (hne : g ≠ p.block) (u : Value) : IsS76 w0 (W.setCell p u) g f0 f1 f2 f3 f4 f5 f6 f7 f8 := by
 obtain ⟨hb, hg⟩ := h
 exact ⟨blk_far hb hne u, hg⟩
theorem IsS76.cell_0 {w0 W : World} {g : Nat} {f0 : Int} {f1 : Int} {f2 : Int} {f3 : Int} {f4 : Bool} {f5 : Int} {f6 : Int} {f7 : Bool} {f8 : Int} (h : IsS76 w0 W g f0 f1 f2 f3 f4 f5 f6 f7 f8) : W.cell? ⟨g, 0, none⟩ = some (.int .i64 f0) := by
 obtain ⟨hb, hg⟩ := h
 exact (blk_cell hb 0).trans rfl
theorem IsS76.froz_0 {w0 W : World} {g : Nat} {f0 : Int} {f1 : Int} {f2 : Int} {f3 : Int} {f4 : Bool} {f5 : Int} {f6 : Int} {f7 : Bool} {f8 : Int} (h : IsS76 w0 W g f0 f1 f2 f3 f4 f5 f6 f7 f8) : W.frozen? ⟨g, 0, none⟩ = false := by
 obtain ⟨hb, hg⟩ := h
 exact blk_frozen hb 0
theorem IsS76.cell_1 {w0 W : World} {g : Nat} {f0 : Int} {f1 : Int} {f2 : Int} {f3 : Int} {f4 : Bool} {f5 : Int} {f6 : Int} {f7 : Bool} {f8 : Int} (h : IsS76 w0 W g f0 f1 f2 f3 f4 f5 f6 f7 f8) : W.cell? ⟨g, 1, none⟩ = some (.int .i64 f1) := by
 obtain ⟨hb, hg⟩ := h
 exact (blk_cell hb 1).trans rfl
theorem IsS76.froz_1 {w0 W : World} {g : Nat} {f0 : Int} {f1 : Int} {f2 : Int} {f3 : Int} {f4 : Bool} {f5 : Int} {f6 : Int} {f7 : Bool} {f8 : Int} (h : IsS76 w0 W g f0 f1 f2 f3 f4 f5 f6 f7 f8) : W.frozen? ⟨g, 1, none⟩ = false := by
 obtain ⟨hb, hg⟩ := h
 exact blk_frozen hb 1
theorem IsS76.cell_2 {w0 W : World} {g : Nat} {f0 : Int} {f1 : Int} {f2 : Int} {f3 : Int} {f4 : Bool} {f5 : Int} {f6 : Int} {f7 : Bool} {f8 : Int} (h : IsS76 w0 W g f0 f1 f2 f3 f4 f5 f6 f7 f8) : W.cell? ⟨g, 2, none⟩ = some (.int .i64 f2) := by
 obtain ⟨hb, hg⟩ := h
 exact (blk_cell hb 2).trans rfl
theorem IsS76.froz_2 {w0 W : World} {g : Nat} {f0 : Int} {f1 : Int} {f2 : Int} {f3 : Int} {f4 : Bool} {f5 : Int} {f6 : Int} {f7 : Bool} {f8 : Int} (h : IsS76 w0 W g f0 f1 f2 f3 f4 f5 f6 f7 f8) : W.frozen? ⟨g, 2, none⟩ = false := by
 obtain ⟨hb, hg⟩ := h
 exact blk_frozen hb 2
theorem IsS76.cell_3 {w0 W : World} {g : Nat} {f0 : Int} {f1 : Int} {f2 : Int} {f3 : Int} {f4 : Bool} {f5 : Int} {f6 : Int} {f7 : Bool} {f8 : Int} (h : IsS76 w0 W g f0 f1 f2 f3 f4 f5 f6 f7 f8) : W.cell? ⟨g, 3, none⟩ = some (.int .i64 f3) := by
 obtain ⟨hb, hg⟩ := h
 exact (blk_cell hb 3).trans rfl
theorem IsS76.froz_3 {w0 W : World} {g : Nat} {f0 : Int} {f1 : Int} {f2 : Int} {f3 : Int} {f4 : Bool} {f5 : Int} {f6 : Int} {f7 : Bool} {f8 : Int} (h : IsS76 w0 W g f0 f1 f2 f3 f4 f5 f6 f7 f8) : W.frozen? ⟨g, 3, none⟩ = false := by
 obtain ⟨hb, hg⟩ := h
 exact blk_frozen hb 3
theorem IsS76.cell_4 {w0 W : World} {g : Nat} {f0 : Int} {f1 : Int} {f2 : Int} {f3 : Int} {f4 : Bool} {f5 : Int} {f6 : Int} {f7 : Bool} {f8 : Int} (h : IsS76 w0 W g f0 f1 f2 f3 f4 f5 f6 f7 f8) : W.cell? ⟨g, 4, none⟩ = some (.bool f4) := by
 obtain ⟨hb, hg⟩ := h
 exact (blk_cell hb 4).trans rfl
theorem IsS76.froz_4 {w0 W : World} {g : Nat} {f0 : Int} {f1 : Int} {f2 : Int} {f3 : Int} {f4 : Bool} {f5 : Int} {f6 : Int} {f7 : Bool} {f8 : Int} (h : IsS76 w0 W g f0 f1 f2 f3 f4 f5 f6 f7 f8) : W.frozen? ⟨g, 4, none⟩ = false := by
 obtain ⟨hb, hg⟩ := h
 exact blk_frozen hb 4
theorem IsS76.cell_5 {w0 W : World} {g : Nat} {f0 : Int} {f1 : Int} {f2 : Int} {f3 : Int} {f4 : Bool} {f5 : Int} {f6 : Int} {f7 : Bool} {f8 : Int} (h : IsS76 w0 W g f0 f1 f2 f3 f4 f5 f6 f7 f8) : W.cell? ⟨g, 5, none⟩ = some (.int .i64 f5) := by
 obtain ⟨hb, hg⟩ := h
 exact (blk_cell hb 5).trans rfl
theorem IsS76.froz_5 {w0 W : World} {g : Nat} {f0 : Int} {f1 : Int} {f2 : Int} {f3 : Int} {f4 : Bool} {f5 : Int} {f6 : Int} {f7 : Bool} {f8 : Int} (h : IsS76 w0 W g f0 f1 f2 f3 f4 f5 f6 f7 f8) : W.frozen? ⟨g, 5, none⟩ = false := by
 obtain ⟨hb, hg⟩ := h
 exact blk_frozen hb 5
theorem IsS76.cell_6 {w0 W : World} {g : Nat} {f0 : Int} {f1 : Int} {f2 : Int} {f3 : Int} {f4 : Bool} {f5 : Int} {f6 : Int} {f7 : Bool} {f8 : Int} (h : IsS76 w0 W g f0 f1 f2 f3 f4 f5 f6 f7 f8) : W.cell? ⟨g, 6, none⟩ = some (.int .i64 f6) := by
 obtain ⟨hb, hg⟩ := h
 exact (blk_cell hb 6).trans rfl
theorem IsS76.froz_6 {w0 W : World} {g : Nat} {f0 : Int} {f1 : Int} {f2 : Int} {f3 : Int} {f4 : Bool} {f5 : Int} {f6 : Int} {f7 : Bool} {f8 : Int} (h : IsS76 w0 W g f0 f1 f2 f3 f4 f5 f6 f7 f8) : W.frozen? ⟨g, 6, none⟩ = false := by
 obtain ⟨hb, hg⟩ := h
 exact blk_frozen hb 6
theorem IsS76.cell_7 {w0 W : World} {g : Nat} {f0 : Int} {f1 : Int} {f2 : Int} {f3 : Int} {f4 : Bool} {f5 : Int} {f6 : Int} {f7 : Bool} {f8 : Int} (h : IsS76 w0 W g f0 f1 f2 f3 f4 f5 f6 f7 f8) : W.cell? ⟨g, 7, none⟩ = some (.bool f7) := by
 obtain ⟨hb, hg⟩ := h
 exact (blk_cell hb 7).trans rfl
theorem IsS76.cell_8 {w0 W : World} {g : Nat} {f0 : Int} {f1 : Int} {f2 : Int} {f3 : Int} {f4 : Bool} {f5 : Int} {f6 : Int} {f7 : Bool} {f8 : Int} (h : IsS76 w0 W g f0 f1 f2 f3 f4 f5 f6 f7 f8) : W.cell? ⟨g, 8, none⟩ = some (.int .i64 f8) := by
 obtain ⟨hb, hg⟩ := h
 exact (blk_cell hb 8).trans rfl
theorem IsS76.rebase {w0 W : World} {g : Nat} {f0 : Int} {f1 : Int} {f2 : Int} {f3 : Int} {f4 : Bool} {f5 : Int} {f6 : Int} {f7 : Bool} {f8 : Int} {w1 : World} (h : IsS76 w1 W g f0 f1 f2 f3 f4 f5 f6 f7 f8) (hl : w0.heap.size ≤ w1.heap.size) : IsS76 w0 W g f0 f1 f2 f3 f4 f5 f6 f7 f8 := by
 obtain ⟨hb, hg⟩ := h
 exact ⟨hb, Nat.le_trans hl hg⟩
theorem cellS76_0 {W : World} {g : Nat} {f0 : Int} {f1 : Int} {f2 : Int} {f3 : Int} {f4 : Bool} {f5 : Int} {f6 : Int} {f7 : Bool} {f8 : Int} (h : W.heap[g]? = some (.cells #[.int .i64 f0, .int .i64 f1, .int .i64 f2, .int .i64 f3, .bool f4, .int .i64 f5, .int .i64 f6, .bool f7, .int .i64 f8] 76 (0, 0))) : W.cell? ⟨g, 0, none⟩ = some (.int .i64 f0) := (blk_cell h 0).trans rfl
theorem IsS76.set_0 {w0 W : World} {g : Nat} {f0 : Int} {f1 : Int} {f2 : Int} {f3 : Int} {f4 : Bool} {f5 : Int} {f6 : Int} {f7 : Bool} {f8 : Int} (h : IsS76 w0 W g f0 f1 f2 f3 f4 f5 f6 f7 f8) (x : Int) : IsS76 w0 (W.setCell ⟨g, 0, none⟩ (.int .i64 x)) g x f1 f2 f3 f4 f5 f6 f7 f8 := by
 obtain ⟨hb, hg⟩ := h
 exact ⟨by simpa using blk_set hb 0 (.int .i64 x), hg⟩
theorem cellS76_1 {W : World} {g : Nat} {f0 : Int} {f1 : Int} {f2 : Int} {f3 : Int} {f4 : Bool} {f5 : Int} {f6 : Int} {f7 : Bool} {f8 : Int} (h : W.heap[g]? = some (.cells #[.int .i64 f0, .int .i64 f1, .int .i64 f2, .int .i64 f3, .bool f4, .int .i64 f5, .int .i64 f6, .bool f7, .int .i64 f8] 76 (0, 0))) : W.cell? ⟨g, 1, none⟩ = some (.int .i64 f1) := (blk_cell h 1).trans rfl
theorem IsS76.set_1 {w0 W : World} {g : Nat} {f0 : Int} {f1 : Int} {f2 : Int} {f3 : Int} {f4 : Bool} {f5 : Int} {f6 : Int} {f7 : Bool} {f8 : Int} (h : IsS76 w0 W g f0 f1 f2 f3 f4 f5 f6 f7 f8) (x : Int) : IsS76 w0 (W.setCell ⟨g, 1, none⟩ (.int .i64 x)) g f0 x f2 f3 f4 f5 f6 f7 f8 := by
 obtain ⟨hb, hg⟩ := h
 exact ⟨by simpa using blk_set hb 1 (.int .i64 x), hg⟩
theorem cellS76_2 {W : World} {g : Nat} {f0 : Int} {f1 : Int} {f2 : Int} {f3 : Int} {f4 : Bool} {f5 : Int} {f6 : Int} {f7 : Bool} {f8 : Int} (h : W.heap[g]? = some (.cells #[.int .i64 f0, .int .i64 f1, .int .i64 f2, .int .i64 f3, .bool f4, .int .i64 f5, .int .i64 f6, .bool f7, .int .i64 f8] 76 (0, 0))) : W.cell? ⟨g, 2, none⟩ = some (.int .i64 f2) := (blk_cell h 2).trans rfl
theorem IsS76.set_2 {w0 W : World} {g : Nat} {f0 : Int} {f1 : Int} {f2 : Int} {f3 : Int} {f4 : Bool} {f5 : Int} {f6 : Int} {f7 : Bool} {f8 : Int} (h : IsS76 w0 W g f0 f1 f2 f3 f4 f5 f6 f7 f8) (x : Int) : IsS76 w0 (W.setCell ⟨g, 2, none⟩ (.int .i64 x)) g f0 f1 x f3 f4 f5 f6 f7 f8 := by
 obtain ⟨hb, hg⟩ := h
 exact ⟨by simpa using blk_set hb 2 (.int .i64 x), hg⟩
theorem cellS76_3 {W : World} {g : Nat} {f0 : Int} {f1 : Int} {f2 : Int} {f3 : Int} {f4 : Bool} {f5 : Int} {f6 : Int} {f7 : Bool} {f8 : Int} (h : W.heap[g]? = some (.cells #[.int .i64 f0, .int .i64 f1, .int .i64 f2, .int .i64 f3, .bool f4, .int .i64 f5, .int .i64 f6, .bool f7, .int .i64 f8] 76 (0, 0))) : W.cell? ⟨g, 3, none⟩ = some (.int .i64 f3) := (blk_cell h 3).trans rfl
theorem IsS76.set_3 {w0 W : World} {g : Nat} {f0 : Int} {f1 : Int} {f2 : Int} {f3 : Int} {f4 : Bool} {f5 : Int} {f6 : Int} {f7 : Bool} {f8 : Int} (h : IsS76 w0 W g f0 f1 f2 f3 f4 f5 f6 f7 f8) (x : Int) : IsS76 w0 (W.setCell ⟨g, 3, none⟩ (.int .i64 x)) g f0 f1 f2 x f4 f5 f6 f7 f8 := by
 obtain ⟨hb, hg⟩ := h
 exact ⟨by simpa using blk_set hb 3 (.int .i64 x), hg⟩
theorem cellS76_4 {W : World} {g : Nat} {f0 : Int} {f1 : Int} {f2 : Int} {f3 : Int} {f4 : Bool} {f5 : Int} {f6 : Int} {f7 : Bool} {f8 : Int} (h : W.heap[g]? = some (.cells #[.int .i64 f0, .int .i64 f1, .int .i64 f2, .int .i64 f3, .bool f4, .int .i64 f5, .int .i64 f6, .bool f7, .int .i64 f8] 76 (0, 0))) : W.cell? ⟨g, 4, none⟩ = some (.bool f4) := (blk_cell h 4).trans rfl
theorem IsS76.set_4 {w0 W : World} {g : Nat} {f0 : Int} {f1 : Int} {f2 : Int} {f3 : Int} {f4 : Bool} {f5 : Int} {f6 : Int} {f7 : Bool} {f8 : Int} (h : IsS76 w0 W g f0 f1 f2 f3 f4 f5 f6 f7 f8) (x : Bool) : IsS76 w0 (W.setCell ⟨g, 4, none⟩ (.bool x)) g f0 f1 f2 f3 x f5 f6 f7 f8 := by
 obtain ⟨hb, hg⟩ := h
 exact ⟨by simpa using blk_set hb 4 (.bool x), hg⟩
theorem cellS76_5 {W : World} {g : Nat} {f0 : Int} {f1 : Int} {f2 : Int} {f3 : Int} {f4 : Bool} {f5 : Int} {f6 : Int} {f7 : Bool} {f8 : Int} (h : W.heap[g]? = some (.cells #[.int .i64 f0, .int .i64 f1, .int .i64 f2, .int .i64 f3, .bool f4, .int .i64 f5, .int .i64 f6, .bool f7, .int .i64 f8] 76 (0, 0))) : W.cell? ⟨g, 5, none⟩ = some (.int .i64 f5) := (blk_cell h 5).trans rfl
theorem IsS76.set_5 {w0 W : World} {g : Nat} {f0 : Int} {f1 : Int} {f2 : Int} {f3 : Int} {f4 : Bool} {f5 : Int} {f6 : Int} {f7 : Bool} {f8 : Int} (h : IsS76 w0 W g f0 f1 f2 f3 f4 f5 f6 f7 f8) (x : Int) : IsS76 w0 (W.setCell ⟨g, 5, none⟩ (.int .i64 x)) g f0 f1 f2 f3 f4 x f6 f7 f8 := by
 obtain ⟨hb, hg⟩ := h
 exact ⟨by simpa using blk_set hb 5 (.int .i64 x), hg⟩
theorem cellS76_6 {W : World} {g : Nat} {f0 : Int} {f1 : Int} {f2 : Int} {f3 : Int} {f4 : Bool} {f5 : Int} {f6 : Int} {f7 : Bool} {f8 : Int} (h : W.heap[g]? = some (.cells #[.int .i64 f0, .int .i64 f1, .int .i64 f2, .int .i64 f3, .bool f4, .int .i64 f5, .int .i64 f6, .bool f7, .int .i64 f8] 76 (0, 0))) : W.cell? ⟨g, 6, none⟩ = some (.int .i64 f6) := (blk_cell h 6).trans rfl
theorem IsS76.set_6 {w0 W : World} {g : Nat} {f0 : Int} {f1 : Int} {f2 : Int} {f3 : Int} {f4 : Bool} {f5 : Int} {f6 : Int} {f7 : Bool} {f8 : Int} (h : IsS76 w0 W g f0 f1 f2 f3 f4 f5 f6 f7 f8) (x : Int) : IsS76 w0 (W.setCell ⟨g, 6, none⟩ (.int .i64 x)) g f0 f1 f2 f3 f4 f5 x f7 f8 := by
 obtain ⟨hb, hg⟩ := h
 exact ⟨by simpa using blk_set hb 6 (.int .i64 x), hg⟩
theorem cellS76_7 {W : World} {g : Nat} {f0 : Int} {f1 : Int} {f2 : Int} {f3 : Int} {f4 : Bool} {f5 : Int} {f6 : Int} {f7 : Bool} {f8 : Int} (h : W.heap[g]? = some (.cells #[.int .i64 f0, .int .i64 f1, .int .i64 f2, .int .i64 f3, .bool f4, .int .i64 f5, .int .i64 f6, .bool f7, .int .i64 f8] 76 (0, 0))) : W.cell? ⟨g, 7, none⟩ = some (.bool f7) := (blk_cell h 7).trans rfl
theorem IsS76.set_7 {w0 W : World} {g : Nat} {f0 : Int} {f1 : Int} {f2 : Int} {f3 : Int} {f4 : Bool} {f5 : Int} {f6 : Int} {f7 : Bool} {f8 : Int} (h : IsS76 w0 W g f0 f1 f2 f3 f4 f5 f6 f7 f8) (x : Bool) : IsS76 w0 (W.setCell ⟨g, 7, none⟩ (.bool x)) g f0 f1 f2 f3 f4 f5 f6 x f8 := by
 obtain ⟨hb, hg⟩ := h
 exact ⟨by simpa using blk_set hb 7 (.bool x), hg⟩
theorem cellS76_8 {W : World} {g : Nat} {f0 : Int} {f1 : Int} {f2 : Int} {f3 : Int} {f4 : Bool} {f5 : Int} {f6 : Int} {f7 : Bool} {f8 : Int} (h : W.heap[g]? = some (.cells #[.int .i64 f0, .int .i64 f1, .int .i64 f2, .int .i64 f3, .bool f4, .int .i64 f5, .int .i64 f6, .bool f7, .int .i64 f8] 76 (0, 0))) : W.cell? ⟨g, 8, none⟩ = some (.int .i64 f8) := (blk_cell h 8).trans rfl
theorem IsS76.set_8 {w0 W : World} {g : Nat} {f0 : Int} {f1 : Int} {f2 : Int} {f3 : Int} {f4 : Bool} {f5 : Int} {f6 : Int} {f7 : Bool} {f8 : Int} (h : IsS76 w0 W g f0 f1 f2 f3 f4 f5 f6 f7 f8) (x : Int) : IsS76 w0 (W.setCell ⟨g, 8, none⟩ (.int .i64 x)) g f0 f1 f2 f3 f4 f5 f6 f7 x := by
 obtain ⟨hb, hg⟩ := h
 exact ⟨by simpa using blk_set hb 8 (.int .i64 x), hg⟩
def aimd_New.made.f (a0 : Int) (a1 : Int) (a2 : Int) : Option (Int × Int × Int × Int × Bool × Int × Int × Bool × Int × Int) := if a1 < 1 then (none) else (if a0 < a1 then (none) else (if a2 < a0 then (none) else (if a2 > 17179869184 then (none) else (some (a0, a1, a2, 0, false, 0, 0, false, 0, 0)))))
set_option maxHeartbeats 8000000 in
set_option maxRecDepth 100000 in
theorem aimd_New.made.calls (a0 : Int) (a1 : Int) (a2 : Int) (r1 : Int) (r2 : Int) (r3 : Int) (r4 : Int) (r5 : Bool) (r6 : Int) (r7 : Int) (r8 : Bool) (r9 : Int) (r10 : Int) (w0 w : World) (hB : Below w0.heap.size w0 w) (h : aimd_New.made.f a0 a1 a2 = some (r1, r2, r3, r4, r5, r6, r7, r8, r9, r10)) :
  Calls Tryd.prog 14 #[.int .i64 a0, .int .i64 a1, .int .i64 a2] w fun e w' => ∃ g_ : Nat, e = .returned (.tuple #[.pointer (some ⟨g_, 0, none⟩), .int .i64 r10]) ∧ IsS76 w0 w' g_ r1 r2 r3 r4 r5 r6 r7 r8 r9 ∧ Below w0.heap.size w0 w' ∧ Below w.heap.size w w' := by
 have hu76 := Tryd.underlying76
 have HBW := aW (Below.refl w.heap.size w)
 have HW0 := aW hB.size
 have HB := aW hB
 clear hB
 have H : (if a1 < 1 then (none) else (if a0 < a1 then (none) else (if a2 < a0 then (none) else (if a2 > 17179869184 then (none) else (some (a0, a1, a2, 0, false, 0, 0, false, 0, 0)))))) = some (r1, r2, r3, r4, r5, r6, r7, r8, r9, r10) := h
 clear h
 by_cases c4 : a1 < 1
 ·rw [if_pos c4] at H
  exact absurd H (by simp)
 ·rw [if_neg c4] at H
  have c4b0 : decide (a1 < 1) = false := decide_eq_false c4
  clear c4
  by_cases c5 : a0 < a1
  ·rw [if_pos c5] at H
   exact absurd H (by simp)
  ·rw [if_neg c5] at H
   have c5b0 : decide (a0 < a1) = false := decide_eq_false c5
   clear c5
   by_cases c6 : a2 < a0
   ·rw [if_pos c6] at H
    exact absurd H (by simp)
   ·rw [if_neg c6] at H
    have c6b0 : decide (a2 < a0) = false := decide_eq_false c6
    clear c6
    by_cases c7 : a2 > 17179869184
    ·rw [if_pos c7] at H
     exact absurd H (by simp)
    ·rw [if_neg c7] at H
     have c7b0 : decide (17179869184 < a2) = false := decide_eq_false c7
     clear c7
     simp only [Option.some.injEq, Prod.mk.injEq] at H
     obtain ⟨rfl, rfl, rfl, rfl, rfl, rfl, rfl, rfl, rfl, rfl⟩ := H
     go_enter Tryd.func14, Tryd.ntmps14
     go_wp2_with (first | ((with_reducible refine gate_dst (N := 28) rfl ?_); refine box_event ?hg (N := 28) ?hd (cs := #[.int .i64 a0, .int .i64 a1, .int .i64 a2, .int .i64 0, .bool false, .int .i64 0, .int .i64 0, .bool false, .int .i64 0]) (t := 76) ?hr ?_; (case hd => rfl); (case hg => rfl); (case hr => first | (go_simp; done) | (go_simp; rfl)); intro gb101 hg w8 hbox hb; have GE101 := aW ((Nat.le_trans HW0.out (by rw [hg]; exact (below_size o74) : w.heap.size ≤ gb101) : w0.heap.size ≤ gb101)); have GW101 := aW ((by rw [hg]; exact (below_size o74) : w.heap.size ≤ gb101)); have BK101 := aW (hbox); replace HB := aW (below_step o76 hb); replace HBW := aW (below_step o74 hb); clear hb hbox hg))
     go_ret2
     exact ⟨_, rfl, (show IsS76 w0 _ gb101 a0 a1 a2 0 false 0 0 false 0 from ⟨by (with_reducible repeat (first | refine blk_drewN ?_ _ | refine blk_drew ?_ | refine blk_alloc ?_ _)); exact BK101.out, GE101.out⟩), by repeat (first | (with_reducible first | exact HB.out | apply below_alloc | apply pw_below_drewN | apply below_drew1 | refine below_set ?_ GE101.out) | exact HB.out), by repeat (first | (with_reducible first | exact HBW.out | apply below_alloc | apply pw_below_drewN | apply below_drew1 | refine below_set ?_ GW101.out) | exact HBW.out)⟩
def aimd_New.nil.f (a0 : Int) (a1 : Int) (a2 : Int) : Option (Int) := if a1 < 1 then (some 1) else (if a0 < a1 then (some 1) else (if a2 < a0 then (some 1) else (if a2 > 17179869184 then (some 1) else (none))))
set_option maxHeartbeats 8000000 in
set_option maxRecDepth 100000 in
theorem aimd_New.nil.calls (a0 : Int) (a1 : Int) (a2 : Int) (r : Int) (w : World) (h : aimd_New.nil.f a0 a1 a2 = some r) :
  Calls Tryd.prog 14 #[.int .i64 a0, .int .i64 a1, .int .i64 a2] w fun e w' => e = .returned (.tuple #[.pointer none, .int .i64 r]) ∧ Below w.heap.size w w' := by
 have hu76 := Tryd.underlying76
 have HB := aW (Below.refl w.heap.size w)
 have H : (if a1 < 1 then (some 1) else (if a0 < a1 then (some 1) else (if a2 < a0 then (some 1) else (if a2 > 17179869184 then (some 1) else (none))))) = some r := h
 clear h
 by_cases c4 : a1 < 1
 ·rw [if_pos c4] at H
  have c4b0 : decide (a1 < 1) = true := decide_eq_true c4
  clear c4
  obtain rfl := Option.some.inj H
  go_enter Tryd.func14, Tryd.ntmps14
  go_wp2
  go_ret2
  exact ⟨o95, o77⟩
 ·rw [if_neg c4] at H
  have c4b0 : decide (a1 < 1) = false := decide_eq_false c4
  clear c4
  by_cases c5 : a0 < a1
  ·rw [if_pos c5] at H
   have c5b0 : decide (a0 < a1) = true := decide_eq_true c5
   clear c5
   obtain rfl := Option.some.inj H
   go_enter Tryd.func14, Tryd.ntmps14
   go_wp2
   go_ret2
   exact ⟨o95, o77⟩
  ·rw [if_neg c5] at H
   have c5b0 : decide (a0 < a1) = false := decide_eq_false c5
   clear c5
   by_cases c6 : a2 < a0
   ·rw [if_pos c6] at H
    have c6b0 : decide (a2 < a0) = true := decide_eq_true c6
    clear c6
    obtain rfl := Option.some.inj H
    go_enter Tryd.func14, Tryd.ntmps14
    go_wp2
    go_ret2
    exact ⟨o95, o77⟩
   ·rw [if_neg c6] at H
    have c6b0 : decide (a2 < a0) = false := decide_eq_false c6
    clear c6
    by_cases c7 : a2 > 17179869184
    ·rw [if_pos c7] at H
     have c7b0 : decide (17179869184 < a2) = true := decide_eq_true c7
     clear c7
     obtain rfl := Option.some.inj H
     go_enter Tryd.func14, Tryd.ntmps14
     go_wp2
     go_ret2
     exact ⟨o95, o77⟩
    ·rw [if_neg c7] at H
     have c7b0 : decide (17179869184 < a2) = false := decide_eq_false c7
     clear c7
     exact absurd H (by simp)
def IsS78 (w0 W : World) (g : Nat) (f0 : Int) (f1 : Int) (f2 : Int) (f3 : Bool) (f4 : Int) : Prop := W.heap[g]? = some (.cells #[.int .i64 f0, .int .i64 f1, .int .i64 f2, .bool f3, .int .i64 f4] 78 (0, 0)) ∧ w0.heap.size ≤ g
theorem IsS78.grown {w0 W : World} {g : Nat} {f0 : Int} {f1 : Int} {f2 : Int} {f3 : Bool} {f4 : Int} {W1 : World} {row : Option Nat} (h : IsS78 w0 W g f0 f1 f2 f3 f4) (hw : W.grownBy W1 row) (hne : some g ≠ row) : IsS78 w0 W1 g f0 f1 f2 f3 f4 := by
 obtain ⟨hb, hg⟩ := h
 exact ⟨blk_grown hb hw hne, hg⟩
theorem IsS78.fresh {w0 W : World} {g : Nat} {f0 : Int} {f1 : Int} {f2 : Int} {f3 : Bool} {f4 : Int} (h : IsS78 w0 W g f0 f1 f2 f3 f4) : ∀ k, W.heap.size ≤ k → k ≠ g := by
 obtain ⟨hb, hg⟩ := h
 exact Kd.freshB hb
theorem IsS78.blk {w0 W : World} {g : Nat} {f0 : Int} {f1 : Int} {f2 : Int} {f3 : Bool} {f4 : Int} (h : IsS78 w0 W g f0 f1 f2 f3 f4) : ∃ cs, W.heap[g]? = some (.cells cs 78 (0, 0)) := by
 obtain ⟨hb, hg⟩ := h
 exact ⟨_, hb⟩
theorem IsS78.below {w0 W : World} {g : Nat} {f0 : Int} {f1 : Int} {f2 : Int} {f3 : Bool} {f4 : Int} {W1 : World} (h : IsS78 w0 W g f0 f1 f2 f3 f4) (hw : Below W.heap.size W W1) : IsS78 w0 W1 g f0 f1 f2 f3 f4 := h.grown (grown_of_below hw none) (by simp)
theorem IsS78.alloc {w0 W : World} {g : Nat} {f0 : Int} {f1 : Int} {f2 : Int} {f3 : Bool} {f4 : Int} (h : IsS78 w0 W g f0 f1 f2 f3 f4) (o : Obj) : IsS78 w0 (W.alloc o) g f0 f1 f2 f3 f4 := h.below (below_alloc bR o)
theorem IsS78.drewN {w0 W : World} {g : Nat} {f0 : Int} {f1 : Int} {f2 : Int} {f3 : Bool} {f4 : Int} (h : IsS78 w0 W g f0 f1 f2 f3 f4) (m : Nat) : IsS78 w0 (W.drewN m) g f0 f1 f2 f3 f4 := h
theorem IsS78.drew {w0 W : World} {g : Nat} {f0 : Int} {f1 : Int} {f2 : Int} {f3 : Bool} {f4 : Int} (h : IsS78 w0 W g f0 f1 f2 f3 f4) : IsS78 w0 W.drew g f0 f1 f2 f3 f4 := h
theorem IsS78.lt {w0 W : World} {g : Nat} {f0 : Int} {f1 : Int} {f2 : Int} {f3 : Bool} {f4 : Int} (h : IsS78 w0 W g f0 f1 f2 f3 f4) : g < W.heap.size := by
 obtain ⟨hb, hg⟩ := h
 exact blk_lt hb
theorem IsS78.ge {w0 W : World} {g : Nat} {f0 : Int} {f1 : Int} {f2 : Int} {f3 : Bool} {f4 : Int} (h : IsS78 w0 W g f0 f1 f2 f3 f4) : w0.heap.size ≤ g := by
 obtain ⟨hb, hg⟩ := h
 exact hg
theorem IsS78.ne_blk {w0 W : World} {g : Nat} {f0 : Int} {f1 : Int} {f2 : Int} {f3 : Bool} {f4 : Int} {a : Nat} {cs : Array Value} {t : TypeId} {fr : Nat × Nat} (h : IsS78 w0 W g f0 f1 f2 f3 f4) (hb2 : W.heap[a]? = some (.cells cs t fr)) (ht : t ≠ 78) : g ≠ a := by
 obtain ⟨hb, hg⟩ := h
 rintro rfl
 rw [hb] at hb2
 injection hb2 with hb2
 injection hb2 with _ ht2
 exact ht ht2.symm
theorem IsS78.far {w0 W : World} {g : Nat} {f0 : Int} {f1 : Int} {f2 : Int} {f3 : Bool} {f4 : Int} {p : Addr} (h : IsS78 w0 W g f0 f1 f2 f3 f4) (hne : g ≠ p.block) (u : Value) : IsS78 w0 (W.setCell p u) g f0 f1 f2 f3 f4 := by
 obtain ⟨hb, hg⟩ := h
 exact ⟨blk_far hb hne u, hg⟩
theorem IsS78.cell_0 {w0 W : World} {g : Nat} {f0 : Int} {f1 : Int} {f2 : Int} {f3 : Bool} {f4 : Int} (h : IsS78 w0 W g f0 f1 f2 f3 f4) : W.cell? ⟨g, 0, none⟩ = some (.int .i64 f0) := by
 obtain ⟨hb, hg⟩ := h
 exact (blk_cell hb 0).trans rfl
theorem IsS78.froz_0 {w0 W : World} {g : Nat} {f0 : Int} {f1 : Int} {f2 : Int} {f3 : Bool} {f4 : Int} (h : IsS78 w0 W g f0 f1 f2 f3 f4) : W.frozen? ⟨g, 0, none⟩ = false := by
 obtain ⟨hb, hg⟩ := h
 exact blk_frozen hb 0
theorem IsS78.cell_1 {w0 W : World} {g : Nat} {f0 : Int} {f1 : Int} {f2 : Int} {f3 : Bool} {f4 : Int} (h : IsS78 w0 W g f0 f1 f2 f3 f4) : W.cell? ⟨g, 1, none⟩ = some (.int .i64 f1) := by
 obtain ⟨hb, hg⟩ := h
 exact (blk_cell hb 1).trans rfl
theorem IsS78.froz_1 {w0 W : World} {g : Nat} {f0 : Int} {f1 : Int} {f2 : Int} {f3 : Bool} {f4 : Int} (h : IsS78 w0 W g f0 f1 f2 f3 f4) : W.frozen? ⟨g, 1, none⟩ = false := by
 obtain ⟨hb, hg⟩ := h
 exact blk_frozen hb 1
theorem IsS78.cell_2 {w0 W : World} {g : Nat} {f0 : Int} {f1 : Int} {f2 : Int} {f3 : Bool} {f4 : Int} (h : IsS78 w0 W g f0 f1 f2 f3 f4) : W.cell? ⟨g, 2, none⟩ = some (.int .i64 f2) := by
 obtain ⟨hb, hg⟩ := h
 exact (blk_cell hb 2).trans rfl
theorem IsS78.froz_2 {w0 W : World} {g : Nat} {f0 : Int} {f1 : Int} {f2 : Int} {f3 : Bool} {f4 : Int} (h : IsS78 w0 W g f0 f1 f2 f3 f4) : W.frozen? ⟨g, 2, none⟩ = false := by
 obtain ⟨hb, hg⟩ := h
 exact blk_frozen hb 2
theorem IsS78.cell_3 {w0 W : World} {g : Nat} {f0 : Int} {f1 : Int} {f2 : Int} {f3 : Bool} {f4 : Int} (h : IsS78 w0 W g f0 f1 f2 f3 f4) : W.cell? ⟨g, 3, none⟩ = some (.bool f3) := by
 obtain ⟨hb, hg⟩ := h
 exact (blk_cell hb 3).trans rfl
theorem IsS78.froz_3 {w0 W : World} {g : Nat} {f0 : Int} {f1 : Int} {f2 : Int} {f3 : Bool} {f4 : Int} (h : IsS78 w0 W g f0 f1 f2 f3 f4) : W.frozen? ⟨g, 3, none⟩ = false := by
 obtain ⟨hb, hg⟩ := h
 exact blk_frozen hb 3
theorem IsS78.cell_4 {w0 W : World} {g : Nat} {f0 : Int} {f1 : Int} {f2 : Int} {f3 : Bool} {f4 : Int} (h : IsS78 w0 W g f0 f1 f2 f3 f4) : W.cell? ⟨g, 4, none⟩ = some (.int .i64 f4) := by
 obtain ⟨hb, hg⟩ := h
 exact (blk_cell hb 4).trans rfl
theorem IsS78.froz_4 {w0 W : World} {g : Nat} {f0 : Int} {f1 : Int} {f2 : Int} {f3 : Bool} {f4 : Int} (h : IsS78 w0 W g f0 f1 f2 f3 f4) : W.frozen? ⟨g, 4, none⟩ = false := by
 obtain ⟨hb, hg⟩ := h
 exact blk_frozen hb 4
theorem IsS78.rebase {w0 W : World} {g : Nat} {f0 : Int} {f1 : Int} {f2 : Int} {f3 : Bool} {f4 : Int} {w1 : World} (h : IsS78 w1 W g f0 f1 f2 f3 f4) (hl : w0.heap.size ≤ w1.heap.size) : IsS78 w0 W g f0 f1 f2 f3 f4 := by
 obtain ⟨hb, hg⟩ := h
 exact ⟨hb, Nat.le_trans hl hg⟩
theorem cellS78_0 {W : World} {g : Nat} {f0 : Int} {f1 : Int} {f2 : Int} {f3 : Bool} {f4 : Int} (h : W.heap[g]? = some (.cells #[.int .i64 f0, .int .i64 f1, .int .i64 f2, .bool f3, .int .i64 f4] 78 (0, 0))) : W.cell? ⟨g, 0, none⟩ = some (.int .i64 f0) := (blk_cell h 0).trans rfl
theorem IsS78.set_0 {w0 W : World} {g : Nat} {f0 : Int} {f1 : Int} {f2 : Int} {f3 : Bool} {f4 : Int} (h : IsS78 w0 W g f0 f1 f2 f3 f4) (x : Int) : IsS78 w0 (W.setCell ⟨g, 0, none⟩ (.int .i64 x)) g x f1 f2 f3 f4 := by
 obtain ⟨hb, hg⟩ := h
 exact ⟨by simpa using blk_set hb 0 (.int .i64 x), hg⟩
theorem cellS78_1 {W : World} {g : Nat} {f0 : Int} {f1 : Int} {f2 : Int} {f3 : Bool} {f4 : Int} (h : W.heap[g]? = some (.cells #[.int .i64 f0, .int .i64 f1, .int .i64 f2, .bool f3, .int .i64 f4] 78 (0, 0))) : W.cell? ⟨g, 1, none⟩ = some (.int .i64 f1) := (blk_cell h 1).trans rfl
theorem IsS78.set_1 {w0 W : World} {g : Nat} {f0 : Int} {f1 : Int} {f2 : Int} {f3 : Bool} {f4 : Int} (h : IsS78 w0 W g f0 f1 f2 f3 f4) (x : Int) : IsS78 w0 (W.setCell ⟨g, 1, none⟩ (.int .i64 x)) g f0 x f2 f3 f4 := by
 obtain ⟨hb, hg⟩ := h
 exact ⟨by simpa using blk_set hb 1 (.int .i64 x), hg⟩
theorem cellS78_2 {W : World} {g : Nat} {f0 : Int} {f1 : Int} {f2 : Int} {f3 : Bool} {f4 : Int} (h : W.heap[g]? = some (.cells #[.int .i64 f0, .int .i64 f1, .int .i64 f2, .bool f3, .int .i64 f4] 78 (0, 0))) : W.cell? ⟨g, 2, none⟩ = some (.int .i64 f2) := (blk_cell h 2).trans rfl
theorem IsS78.set_2 {w0 W : World} {g : Nat} {f0 : Int} {f1 : Int} {f2 : Int} {f3 : Bool} {f4 : Int} (h : IsS78 w0 W g f0 f1 f2 f3 f4) (x : Int) : IsS78 w0 (W.setCell ⟨g, 2, none⟩ (.int .i64 x)) g f0 f1 x f3 f4 := by
 obtain ⟨hb, hg⟩ := h
 exact ⟨by simpa using blk_set hb 2 (.int .i64 x), hg⟩
theorem cellS78_3 {W : World} {g : Nat} {f0 : Int} {f1 : Int} {f2 : Int} {f3 : Bool} {f4 : Int} (h : W.heap[g]? = some (.cells #[.int .i64 f0, .int .i64 f1, .int .i64 f2, .bool f3, .int .i64 f4] 78 (0, 0))) : W.cell? ⟨g, 3, none⟩ = some (.bool f3) := (blk_cell h 3).trans rfl
theorem IsS78.set_3 {w0 W : World} {g : Nat} {f0 : Int} {f1 : Int} {f2 : Int} {f3 : Bool} {f4 : Int} (h : IsS78 w0 W g f0 f1 f2 f3 f4) (x : Bool) : IsS78 w0 (W.setCell ⟨g, 3, none⟩ (.bool x)) g f0 f1 f2 x f4 := by
 obtain ⟨hb, hg⟩ := h
 exact ⟨by simpa using blk_set hb 3 (.bool x), hg⟩
theorem cellS78_4 {W : World} {g : Nat} {f0 : Int} {f1 : Int} {f2 : Int} {f3 : Bool} {f4 : Int} (h : W.heap[g]? = some (.cells #[.int .i64 f0, .int .i64 f1, .int .i64 f2, .bool f3, .int .i64 f4] 78 (0, 0))) : W.cell? ⟨g, 4, none⟩ = some (.int .i64 f4) := (blk_cell h 4).trans rfl
theorem IsS78.set_4 {w0 W : World} {g : Nat} {f0 : Int} {f1 : Int} {f2 : Int} {f3 : Bool} {f4 : Int} (h : IsS78 w0 W g f0 f1 f2 f3 f4) (x : Int) : IsS78 w0 (W.setCell ⟨g, 4, none⟩ (.int .i64 x)) g f0 f1 f2 f3 x := by
 obtain ⟨hb, hg⟩ := h
 exact ⟨by simpa using blk_set hb 4 (.int .i64 x), hg⟩
def lossy_New.made.f (a0 : Int) (a1 : Int) (a2 : Int) : Option (Int × Int × Int × Bool × Int × Int) := if a1 < 1 then (none) else (if a0 < a1 then (none) else (if a2 < a0 then (none) else (if a2 > 17179869184 then (none) else (some (a0, a1, a2, false, 0, 0)))))
set_option maxHeartbeats 8000000 in
set_option maxRecDepth 100000 in
theorem lossy_New.made.calls (a0 : Int) (a1 : Int) (a2 : Int) (r1 : Int) (r2 : Int) (r3 : Int) (r4 : Bool) (r5 : Int) (r6 : Int) (w0 w : World) (hB : Below w0.heap.size w0 w) (h : lossy_New.made.f a0 a1 a2 = some (r1, r2, r3, r4, r5, r6)) :
  Calls Tryd.prog 15 #[.int .i64 a0, .int .i64 a1, .int .i64 a2] w fun e w' => ∃ g_ : Nat, e = .returned (.tuple #[.pointer (some ⟨g_, 0, none⟩), .int .i64 r6]) ∧ IsS78 w0 w' g_ r1 r2 r3 r4 r5 ∧ Below w0.heap.size w0 w' ∧ Below w.heap.size w w' := by
 have hu78 := Tryd.underlying78
 have HBW := aW (Below.refl w.heap.size w)
 have HW0 := aW hB.size
 have HB := aW hB
 clear hB
 have H : (if a1 < 1 then (none) else (if a0 < a1 then (none) else (if a2 < a0 then (none) else (if a2 > 17179869184 then (none) else (some (a0, a1, a2, false, 0, 0)))))) = some (r1, r2, r3, r4, r5, r6) := h
 clear h
 by_cases c4 : a1 < 1
 ·rw [if_pos c4] at H
  exact absurd H (by simp)
 ·rw [if_neg c4] at H
  have c4b0 : decide (a1 < 1) = false := decide_eq_false c4
  clear c4
  by_cases c5 : a0 < a1
  ·rw [if_pos c5] at H
   exact absurd H (by simp)
  ·rw [if_neg c5] at H
   have c5b0 : decide (a0 < a1) = false := decide_eq_false c5
   clear c5
   by_cases c6 : a2 < a0
   ·rw [if_pos c6] at H
    exact absurd H (by simp)
   ·rw [if_neg c6] at H
    have c6b0 : decide (a2 < a0) = false := decide_eq_false c6
    clear c6
    by_cases c7 : a2 > 17179869184
    ·rw [if_pos c7] at H
     exact absurd H (by simp)
    ·rw [if_neg c7] at H
     have c7b0 : decide (17179869184 < a2) = false := decide_eq_false c7
     clear c7
     simp only [Option.some.injEq, Prod.mk.injEq] at H
     obtain ⟨rfl, rfl, rfl, rfl, rfl, rfl⟩ := H
     go_enter Tryd.func15, Tryd.ntmps15
     go_wp2_with (first | ((with_reducible refine gate_dst (N := 28) rfl ?_); refine box_event ?hg (N := 28) ?hd (cs := #[.int .i64 a0, .int .i64 a1, .int .i64 a2, .bool false, .int .i64 0]) (t := 78) ?hr ?_; (case hd => rfl); (case hg => rfl); (case hr => first | (go_simp; done) | (go_simp; rfl)); intro gb103 hg w8 hbox hb; have GE103 := aW ((Nat.le_trans HW0.out (by rw [hg]; exact (below_size o74) : w.heap.size ≤ gb103) : w0.heap.size ≤ gb103)); have GW103 := aW ((by rw [hg]; exact (below_size o74) : w.heap.size ≤ gb103)); have BK103 := aW (hbox); replace HB := aW (below_step o76 hb); replace HBW := aW (below_step o74 hb); clear hb hbox hg))
     go_ret2
     exact ⟨_, rfl, (show IsS78 w0 _ gb103 a0 a1 a2 false 0 from ⟨by (with_reducible repeat (first | refine blk_drewN ?_ _ | refine blk_drew ?_ | refine blk_alloc ?_ _)); exact BK103.out, GE103.out⟩), by repeat (first | (with_reducible first | exact HB.out | apply below_alloc | apply pw_below_drewN | apply below_drew1 | refine below_set ?_ GE103.out) | exact HB.out), by repeat (first | (with_reducible first | exact HBW.out | apply below_alloc | apply pw_below_drewN | apply below_drew1 | refine below_set ?_ GW103.out) | exact HBW.out)⟩
structure GrS where
 f : Int
 l : Int
 c : Int
 n : Int
 o : Bool
 d : Option (Int × Int × Int × Int)
 b : Int
def DN (w0 W : World) (d : Option (Int × Int × Int × Int)) (dv : Value) : Prop := match d with
 | none => dv = .pointer none
 | some x => ∃ gd, dv = .pointer (some ⟨gd, 0, none⟩) ∧ W.heap[gd]? = some (.cells #[.int .i64 x.1, .int .i64 x.2.1, .int .i64 x.2.2.1, .int .i64 x.2.2.2] 82 (0, 0)) ∧ w0.heap.size ≤ gd
theorem DN.same {w0 W W1 : World} {d : Option (Int × Int × Int × Int)} {dv : Value} (h : DN w0 W d dv) (hk : ∀ (i : Nat) (cs : Array Value), W.heap[i]? = some (.cells cs 82 (0, 0)) → W1.heap[i]? = some (.cells cs 82 (0, 0))) : DN w0 W1 d dv := by
 cases d with
 | none => exact h
 | some x =>
  obtain ⟨gd, h1, h2, h3⟩ := h
  exact ⟨gd, h1, hk _ _ h2, h3⟩
theorem DN.rebase {w0 w1 W : World} {d : Option (Int × Int × Int × Int)} {dv : Value} (h : DN w1 W d dv) (hl : w0.heap.size ≤ w1.heap.size) : DN w0 W d dv := by
 cases d with
 | none => exact h
 | some x =>
  obtain ⟨gd, h1, h2, h3⟩ := h
  exact ⟨gd, h1, h2, Nat.le_trans hl h3⟩
theorem bkt {W : World} {a b : Nat} {cs cs' : Array Value} {t t' : TypeId} (ha : W.heap[a]? = some (.cells cs t (0, 0))) (hb : W.heap[b]? = some (.cells cs' t' (0, 0))) (ht : t ≠ t') : a ≠ b := by
 rintro rfl
 rw [ha] at hb
 injection hb with hb
 injection hb with _ hb _
 exact ht hb
theorem kb_at {W W1 : World} {a b : Nat} {o : Obj} (hk : KeepBut W W1 b none) (ha : W.heap[a]? = some o) (hne : a ≠ b) : W1.heap[a]? = some o := (hk.2 a (blk_lt ha) hne (by simp)).trans ha
theorem far_t {W : World} {a b i : Nat} {cs cs' : Array Value} {t t' : TypeId} {u : Value} (ha : W.heap[a]? = some (.cells cs t (0, 0))) (hb : W.heap[b]? = some (.cells cs' t' (0, 0))) (ht : t ≠ t') : (W.setCell ⟨b, i, none⟩ u).heap[a]? = some (.cells cs t (0, 0)) := blk_far ha (p := ⟨b, i, none⟩) (bkt ha hb ht) u
def GC (s : GrS) (dv : Value) : Array Value := #[.int .i64 s.f, .int .i64 s.l, .int .i64 s.c, .int .i64 s.n, .bool s.o, dv, .int .i64 s.b]
def IsS85 (w0 W : World) (g : Nat) (s : GrS) : Prop := ∃ dv, W.heap[g]? = some (.cells (GC s dv) 85 (0, 0)) ∧ w0.heap.size ≤ g ∧ DN w0 W s.d dv
theorem IsS85.same {w0 W W1 : World} {g : Nat} {s : GrS} (h : IsS85 w0 W g s) (hk : ∀ (i : Nat) (cs : Array Value) (t : TypeId), W.heap[i]? = some (.cells cs t (0, 0)) → t = 85 ∨ t = 82 → W1.heap[i]? = some (.cells cs t (0, 0))) : IsS85 w0 W1 g s := by
 obtain ⟨dv, h1, h2, h3⟩ := h
 exact ⟨dv, hk _ _ _ h1 (.inl rfl), h2, DN.same h3 (fun i cs h => hk i cs 82 h (.inr rfl))⟩
theorem IsS85.below {w0 W W1 : World} {g : Nat} {s : GrS} (h : IsS85 w0 W g s) (hb : Below W.heap.size W W1) : IsS85 w0 W1 g s := IsS85.same h (fun i cs t hi _ => blk_below hi hb)
theorem IsS85.rebase {w0 w1 W : World} {g : Nat} {s : GrS} (h : IsS85 w1 W g s) (hl : w0.heap.size ≤ w1.heap.size) : IsS85 w0 W g s := by
 obtain ⟨dv, h1, h2, h3⟩ := h
 exact ⟨dv, h1, Nat.le_trans hl h2, DN.rebase h3 hl⟩
theorem IsS85.keep {w0 W W1 : World} {g a : Nat} {s : GrS} {cs : Array Value} {t : TypeId} (h : IsS85 w0 W g s) (hk : KeepBut W W1 a none) (ha : W.heap[a]? = some (.cells cs t (0, 0))) (h1 : t ≠ 85) (h2 : t ≠ 82) : IsS85 w0 W1 g s :=
 IsS85.same h (fun i cs' t' hi ht => kb_at hk hi (bkt hi ha (by rcases ht with rfl | rfl; exact Ne.symm h1; exact Ne.symm h2)))
theorem IsS85.setr {w0 W : World} {g a i : Nat} {s : GrS} {cs : Array Value} {t : TypeId} {u : Value} (h : IsS85 w0 W g s) (ha : W.heap[a]? = some (.cells cs t (0, 0))) (h1 : t ≠ 85) (h2 : t ≠ 82) : IsS85 w0 (W.setCell ⟨a, i, none⟩ u) g s :=
 IsS85.same h (fun i cs' t' hi ht => far_t hi ha (by rcases ht with rfl | rfl; exact Ne.symm h1; exact Ne.symm h2))
theorem IsS85.blk {w0 W : World} {g : Nat} {s : GrS} (h : IsS85 w0 W g s) : ∃ cs, W.heap[g]? = some (.cells cs 85 (0, 0)) := by
 obtain ⟨dv, h1, _⟩ := h
 exact ⟨_, h1⟩
set_option maxHeartbeats 16000000 in
set_option maxRecDepth 100000 in
theorem group_New.calls5 (w0 w : World) (hB : Below w0.heap.size w0 w) :
  Calls Tryd.prog 16 #[.int .i64 5000] w fun e w' => ∃ g_ : Nat, e = .returned (.tuple #[.pointer (some ⟨g_, 0, none⟩), .int .i64 0]) ∧ IsS85 w0 w' g_ ⟨0, 0, 0, 0, false, none, 5000⟩ ∧ Below w0.heap.size w0 w' ∧ Below w.heap.size w w' := by
 have hu85 := Tryd.underlying85
 go_enter Tryd.func16, Tryd.ntmps16
 go_wp2_with (first | ((with_reducible refine gate_dst (N := 12) rfl ?_); refine box_event ?hg (N := 12) ?hd (cs := #[.int .i64 0, .int .i64 0, .int .i64 0, .int .i64 0, .bool false, .pointer none, .int .i64 5000]) (t := 85) ?hr ?_; (case hd => rfl); (case hg => rfl); (case hr => first | (go_simp; done) | (go_simp; rfl)); intro gb hg w8 hbox hb; have hgb : w0.heap.size ≤ gb := (by rw [hg]; exact (below_size (by repeat (first | exact hB | apply below_alloc | apply pw_below_drewN | apply below_drew)))); have HB1 := below_step (by repeat (first | exact hB | apply below_alloc | apply pw_below_drewN | apply below_drew)) hb; have HB2 := below_step (o93) hb; clear hg hb))
 go_ret2
 exact ⟨_, rfl, ⟨_, by (with_reducible repeat (first | refine blk_drewN ?_ _ | refine blk_drew ?_ | refine blk_alloc ?_ _)); exact hbox, hgb, rfl⟩, by repeat (first | (with_reducible first | exact HB1 | apply below_alloc | apply pw_below_drewN | apply below_drew1) | exact HB1), by repeat (first | (with_reducible first | exact HB2 | apply below_alloc | apply pw_below_drewN | apply below_drew1) | exact HB2)⟩
def IsS88P (P : Nat → Prop) (w0 W : World) (g : Nat) (f0 : Int) (f1 : Int) (f2 : Int) (f3 : Int) (f4 : Int) (f5 : List Int) (f6 : List Int) (f7 : Int) : Prop := ∃ A5 c5, ∃ A6 c6, W.heap[g]? = some (.cells #[.int .i64 f0, .int .i64 f1, .int .i64 f2, .int .i64 f3, .int .i64 f4, .slice A5 f5.length c5, .slice A6 f6.length c6, .int .i64 f7] 88 (0, 0)) ∧ w0.heap.size ≤ g ∧ Kd.Q (Kd.int .i64) 2 W w0.heap.size (fun k => P k ∧ k ≠ g) (.slice A5 f5.length c5) f5 ∧ Kd.Q (Kd.int .i64) 2 W w0.heap.size (fun k => (P k ∧ k ≠ g) ∧ some k ≠ (Value.slice A5 f5.length c5).ownBlock) (.slice A6 f6.length c6) f6 ∧ P g
def IsS88 (w0 W : World) (g : Nat) (f0 : Int) (f1 : Int) (f2 : Int) (f3 : Int) (f4 : Int) (f5 : List Int) (f6 : List Int) (f7 : Int) : Prop := IsS88P (fun _ => True) w0 W g f0 f1 f2 f3 f4 f5 f6 f7
theorem IsS88P.fresh {P : Nat → Prop} {w0 W : World} {g : Nat} {f0 : Int} {f1 : Int} {f2 : Int} {f3 : Int} {f4 : Int} {f5 : List Int} {f6 : List Int} {f7 : Int} (h : IsS88P P w0 W g f0 f1 f2 f3 f4 f5 f6 f7) : ∀ k, W.heap.size ≤ k → k ≠ g := by
 obtain ⟨A5, c5, A6, c6, hb, hg, hr5, hr6, hP⟩ := h
 exact Kd.freshB hb
theorem IsS88.fresh {w0 W : World} {g : Nat} {f0 : Int} {f1 : Int} {f2 : Int} {f3 : Int} {f4 : Int} {f5 : List Int} {f6 : List Int} {f7 : Int} (h : IsS88 w0 W g f0 f1 f2 f3 f4 f5 f6 f7) : ∀ k, W.heap.size ≤ k → k ≠ g := IsS88P.fresh h
theorem IsS88P.blk {P : Nat → Prop} {w0 W : World} {g : Nat} {f0 : Int} {f1 : Int} {f2 : Int} {f3 : Int} {f4 : Int} {f5 : List Int} {f6 : List Int} {f7 : Int} (h : IsS88P P w0 W g f0 f1 f2 f3 f4 f5 f6 f7) : ∃ cs, W.heap[g]? = some (.cells cs 88 (0, 0)) := by
 obtain ⟨A5, c5, A6, c6, hb, hg, hr5, hr6, hP⟩ := h
 exact ⟨_, hb⟩
theorem IsS88.blk {w0 W : World} {g : Nat} {f0 : Int} {f1 : Int} {f2 : Int} {f3 : Int} {f4 : Int} {f5 : List Int} {f6 : List Int} {f7 : Int} (h : IsS88 w0 W g f0 f1 f2 f3 f4 f5 f6 f7) : ∃ cs, W.heap[g]? = some (.cells cs 88 (0, 0)) := IsS88P.blk h
theorem IsS88P.below {P : Nat → Prop} {w0 W : World} {g : Nat} {f0 : Int} {f1 : Int} {f2 : Int} {f3 : Int} {f4 : Int} {f5 : List Int} {f6 : List Int} {f7 : Int} {W1 : World} (h : IsS88P P w0 W g f0 f1 f2 f3 f4 f5 f6 f7) (hw : Below W.heap.size W W1) : IsS88P P w0 W1 g f0 f1 f2 f3 f4 f5 f6 f7 := by
 obtain ⟨A5, c5, A6, c6, hb, hg, hr5, hr6, hP⟩ := h
 exact ⟨A5, c5, A6, c6, blk_grown hb (grown_of_below hw none) (by simp), hg, Kd.Q_below hr5 hw, Kd.Q_below hr6 hw, hP⟩
theorem IsS88.below {w0 W : World} {g : Nat} {f0 : Int} {f1 : Int} {f2 : Int} {f3 : Int} {f4 : Int} {f5 : List Int} {f6 : List Int} {f7 : Int} {W1 : World} (h : IsS88 w0 W g f0 f1 f2 f3 f4 f5 f6 f7) (hw : Below W.heap.size W W1) : IsS88 w0 W1 g f0 f1 f2 f3 f4 f5 f6 f7 := IsS88P.below h hw
theorem IsS88P.alloc {P : Nat → Prop} {w0 W : World} {g : Nat} {f0 : Int} {f1 : Int} {f2 : Int} {f3 : Int} {f4 : Int} {f5 : List Int} {f6 : List Int} {f7 : Int} (h : IsS88P P w0 W g f0 f1 f2 f3 f4 f5 f6 f7) (o : Obj) : IsS88P P w0 (W.alloc o) g f0 f1 f2 f3 f4 f5 f6 f7 := h.below (below_alloc bR o)
theorem IsS88.alloc {w0 W : World} {g : Nat} {f0 : Int} {f1 : Int} {f2 : Int} {f3 : Int} {f4 : Int} {f5 : List Int} {f6 : List Int} {f7 : Int} (h : IsS88 w0 W g f0 f1 f2 f3 f4 f5 f6 f7) (o : Obj) : IsS88 w0 (W.alloc o) g f0 f1 f2 f3 f4 f5 f6 f7 := IsS88P.alloc h o
theorem IsS88P.drewN {P : Nat → Prop} {w0 W : World} {g : Nat} {f0 : Int} {f1 : Int} {f2 : Int} {f3 : Int} {f4 : Int} {f5 : List Int} {f6 : List Int} {f7 : Int} (h : IsS88P P w0 W g f0 f1 f2 f3 f4 f5 f6 f7) (m : Nat) : IsS88P P w0 (W.drewN m) g f0 f1 f2 f3 f4 f5 f6 f7 := h.below (pw_below_drewN bR m)
theorem IsS88.drewN {w0 W : World} {g : Nat} {f0 : Int} {f1 : Int} {f2 : Int} {f3 : Int} {f4 : Int} {f5 : List Int} {f6 : List Int} {f7 : Int} (h : IsS88 w0 W g f0 f1 f2 f3 f4 f5 f6 f7) (m : Nat) : IsS88 w0 (W.drewN m) g f0 f1 f2 f3 f4 f5 f6 f7 := IsS88P.drewN h m
theorem IsS88P.drew {P : Nat → Prop} {w0 W : World} {g : Nat} {f0 : Int} {f1 : Int} {f2 : Int} {f3 : Int} {f4 : Int} {f5 : List Int} {f6 : List Int} {f7 : Int} (h : IsS88P P w0 W g f0 f1 f2 f3 f4 f5 f6 f7) : IsS88P P w0 W.drew g f0 f1 f2 f3 f4 f5 f6 f7 := h.below (below_drew bR)
theorem IsS88.drew {w0 W : World} {g : Nat} {f0 : Int} {f1 : Int} {f2 : Int} {f3 : Int} {f4 : Int} {f5 : List Int} {f6 : List Int} {f7 : Int} (h : IsS88 w0 W g f0 f1 f2 f3 f4 f5 f6 f7) : IsS88 w0 W.drew g f0 f1 f2 f3 f4 f5 f6 f7 := IsS88P.drew h
theorem IsS88P.lt {P : Nat → Prop} {w0 W : World} {g : Nat} {f0 : Int} {f1 : Int} {f2 : Int} {f3 : Int} {f4 : Int} {f5 : List Int} {f6 : List Int} {f7 : Int} (h : IsS88P P w0 W g f0 f1 f2 f3 f4 f5 f6 f7) : g < W.heap.size := by
 obtain ⟨A5, c5, A6, c6, hb, hg, hr5, hr6, hP⟩ := h
 exact blk_lt hb
theorem IsS88.lt {w0 W : World} {g : Nat} {f0 : Int} {f1 : Int} {f2 : Int} {f3 : Int} {f4 : Int} {f5 : List Int} {f6 : List Int} {f7 : Int} (h : IsS88 w0 W g f0 f1 f2 f3 f4 f5 f6 f7) : g < W.heap.size := IsS88P.lt h
theorem IsS88P.ge {P : Nat → Prop} {w0 W : World} {g : Nat} {f0 : Int} {f1 : Int} {f2 : Int} {f3 : Int} {f4 : Int} {f5 : List Int} {f6 : List Int} {f7 : Int} (h : IsS88P P w0 W g f0 f1 f2 f3 f4 f5 f6 f7) : w0.heap.size ≤ g := by
 obtain ⟨A5, c5, A6, c6, hb, hg, hr5, hr6, hP⟩ := h
 exact hg
theorem IsS88.ge {w0 W : World} {g : Nat} {f0 : Int} {f1 : Int} {f2 : Int} {f3 : Int} {f4 : Int} {f5 : List Int} {f6 : List Int} {f7 : Int} (h : IsS88 w0 W g f0 f1 f2 f3 f4 f5 f6 f7) : w0.heap.size ≤ g := IsS88P.ge h
theorem IsS88P.ne_blk {P : Nat → Prop} {w0 W : World} {g : Nat} {f0 : Int} {f1 : Int} {f2 : Int} {f3 : Int} {f4 : Int} {f5 : List Int} {f6 : List Int} {f7 : Int} {a : Nat} {cs : Array Value} {t : TypeId} {fr : Nat × Nat} (h : IsS88P P w0 W g f0 f1 f2 f3 f4 f5 f6 f7) (hb2 : W.heap[a]? = some (.cells cs t fr)) (ht : t ≠ 88) : g ≠ a := by
 obtain ⟨A5, c5, A6, c6, hb, hg, hr5, hr6, hP⟩ := h
 rintro rfl
 rw [hb] at hb2
 injection hb2 with hb2
 injection hb2 with _ ht2
 exact ht ht2.symm
theorem IsS88.ne_blk {w0 W : World} {g : Nat} {f0 : Int} {f1 : Int} {f2 : Int} {f3 : Int} {f4 : Int} {f5 : List Int} {f6 : List Int} {f7 : Int} {a : Nat} {cs : Array Value} {t : TypeId} {fr : Nat × Nat} (h : IsS88 w0 W g f0 f1 f2 f3 f4 f5 f6 f7) (hb2 : W.heap[a]? = some (.cells cs t fr)) (ht : t ≠ 88) : g ≠ a := IsS88P.ne_blk h hb2 ht
theorem IsS88P.cell_0 {P : Nat → Prop} {w0 W : World} {g : Nat} {f0 : Int} {f1 : Int} {f2 : Int} {f3 : Int} {f4 : Int} {f5 : List Int} {f6 : List Int} {f7 : Int} (h : IsS88P P w0 W g f0 f1 f2 f3 f4 f5 f6 f7) : W.cell? ⟨g, 0, none⟩ = some (.int .i64 f0) := by
 obtain ⟨A5, c5, A6, c6, hb, hg, hr5, hr6, hP⟩ := h
 exact (blk_cell hb 0).trans rfl
theorem IsS88.cell_0 {w0 W : World} {g : Nat} {f0 : Int} {f1 : Int} {f2 : Int} {f3 : Int} {f4 : Int} {f5 : List Int} {f6 : List Int} {f7 : Int} (h : IsS88 w0 W g f0 f1 f2 f3 f4 f5 f6 f7) : W.cell? ⟨g, 0, none⟩ = some (.int .i64 f0) := IsS88P.cell_0 h
theorem IsS88P.froz_0 {P : Nat → Prop} {w0 W : World} {g : Nat} {f0 : Int} {f1 : Int} {f2 : Int} {f3 : Int} {f4 : Int} {f5 : List Int} {f6 : List Int} {f7 : Int} (h : IsS88P P w0 W g f0 f1 f2 f3 f4 f5 f6 f7) : W.frozen? ⟨g, 0, none⟩ = false := by
 obtain ⟨A5, c5, A6, c6, hb, hg, hr5, hr6, hP⟩ := h
 exact blk_frozen hb 0
theorem IsS88.froz_0 {w0 W : World} {g : Nat} {f0 : Int} {f1 : Int} {f2 : Int} {f3 : Int} {f4 : Int} {f5 : List Int} {f6 : List Int} {f7 : Int} (h : IsS88 w0 W g f0 f1 f2 f3 f4 f5 f6 f7) : W.frozen? ⟨g, 0, none⟩ = false := IsS88P.froz_0 h
theorem IsS88P.cell_1 {P : Nat → Prop} {w0 W : World} {g : Nat} {f0 : Int} {f1 : Int} {f2 : Int} {f3 : Int} {f4 : Int} {f5 : List Int} {f6 : List Int} {f7 : Int} (h : IsS88P P w0 W g f0 f1 f2 f3 f4 f5 f6 f7) : W.cell? ⟨g, 1, none⟩ = some (.int .i64 f1) := by
 obtain ⟨A5, c5, A6, c6, hb, hg, hr5, hr6, hP⟩ := h
 exact (blk_cell hb 1).trans rfl
theorem IsS88.cell_1 {w0 W : World} {g : Nat} {f0 : Int} {f1 : Int} {f2 : Int} {f3 : Int} {f4 : Int} {f5 : List Int} {f6 : List Int} {f7 : Int} (h : IsS88 w0 W g f0 f1 f2 f3 f4 f5 f6 f7) : W.cell? ⟨g, 1, none⟩ = some (.int .i64 f1) := IsS88P.cell_1 h
theorem IsS88P.froz_1 {P : Nat → Prop} {w0 W : World} {g : Nat} {f0 : Int} {f1 : Int} {f2 : Int} {f3 : Int} {f4 : Int} {f5 : List Int} {f6 : List Int} {f7 : Int} (h : IsS88P P w0 W g f0 f1 f2 f3 f4 f5 f6 f7) : W.frozen? ⟨g, 1, none⟩ = false := by
 obtain ⟨A5, c5, A6, c6, hb, hg, hr5, hr6, hP⟩ := h
 exact blk_frozen hb 1
theorem IsS88.froz_1 {w0 W : World} {g : Nat} {f0 : Int} {f1 : Int} {f2 : Int} {f3 : Int} {f4 : Int} {f5 : List Int} {f6 : List Int} {f7 : Int} (h : IsS88 w0 W g f0 f1 f2 f3 f4 f5 f6 f7) : W.frozen? ⟨g, 1, none⟩ = false := IsS88P.froz_1 h
theorem IsS88P.cell_2 {P : Nat → Prop} {w0 W : World} {g : Nat} {f0 : Int} {f1 : Int} {f2 : Int} {f3 : Int} {f4 : Int} {f5 : List Int} {f6 : List Int} {f7 : Int} (h : IsS88P P w0 W g f0 f1 f2 f3 f4 f5 f6 f7) : W.cell? ⟨g, 2, none⟩ = some (.int .i64 f2) := by
 obtain ⟨A5, c5, A6, c6, hb, hg, hr5, hr6, hP⟩ := h
 exact (blk_cell hb 2).trans rfl
theorem IsS88.cell_2 {w0 W : World} {g : Nat} {f0 : Int} {f1 : Int} {f2 : Int} {f3 : Int} {f4 : Int} {f5 : List Int} {f6 : List Int} {f7 : Int} (h : IsS88 w0 W g f0 f1 f2 f3 f4 f5 f6 f7) : W.cell? ⟨g, 2, none⟩ = some (.int .i64 f2) := IsS88P.cell_2 h
theorem IsS88P.froz_2 {P : Nat → Prop} {w0 W : World} {g : Nat} {f0 : Int} {f1 : Int} {f2 : Int} {f3 : Int} {f4 : Int} {f5 : List Int} {f6 : List Int} {f7 : Int} (h : IsS88P P w0 W g f0 f1 f2 f3 f4 f5 f6 f7) : W.frozen? ⟨g, 2, none⟩ = false := by
 obtain ⟨A5, c5, A6, c6, hb, hg, hr5, hr6, hP⟩ := h
 exact blk_frozen hb 2
theorem IsS88.froz_2 {w0 W : World} {g : Nat} {f0 : Int} {f1 : Int} {f2 : Int} {f3 : Int} {f4 : Int} {f5 : List Int} {f6 : List Int} {f7 : Int} (h : IsS88 w0 W g f0 f1 f2 f3 f4 f5 f6 f7) : W.frozen? ⟨g, 2, none⟩ = false := IsS88P.froz_2 h
theorem IsS88P.cell_3 {P : Nat → Prop} {w0 W : World} {g : Nat} {f0 : Int} {f1 : Int} {f2 : Int} {f3 : Int} {f4 : Int} {f5 : List Int} {f6 : List Int} {f7 : Int} (h : IsS88P P w0 W g f0 f1 f2 f3 f4 f5 f6 f7) : W.cell? ⟨g, 3, none⟩ = some (.int .i64 f3) := by
 obtain ⟨A5, c5, A6, c6, hb, hg, hr5, hr6, hP⟩ := h
 exact (blk_cell hb 3).trans rfl
theorem IsS88.cell_3 {w0 W : World} {g : Nat} {f0 : Int} {f1 : Int} {f2 : Int} {f3 : Int} {f4 : Int} {f5 : List Int} {f6 : List Int} {f7 : Int} (h : IsS88 w0 W g f0 f1 f2 f3 f4 f5 f6 f7) : W.cell? ⟨g, 3, none⟩ = some (.int .i64 f3) := IsS88P.cell_3 h
theorem IsS88P.froz_3 {P : Nat → Prop} {w0 W : World} {g : Nat} {f0 : Int} {f1 : Int} {f2 : Int} {f3 : Int} {f4 : Int} {f5 : List Int} {f6 : List Int} {f7 : Int} (h : IsS88P P w0 W g f0 f1 f2 f3 f4 f5 f6 f7) : W.frozen? ⟨g, 3, none⟩ = false := by
 obtain ⟨A5, c5, A6, c6, hb, hg, hr5, hr6, hP⟩ := h
 exact blk_frozen hb 3
theorem IsS88.froz_3 {w0 W : World} {g : Nat} {f0 : Int} {f1 : Int} {f2 : Int} {f3 : Int} {f4 : Int} {f5 : List Int} {f6 : List Int} {f7 : Int} (h : IsS88 w0 W g f0 f1 f2 f3 f4 f5 f6 f7) : W.frozen? ⟨g, 3, none⟩ = false := IsS88P.froz_3 h
theorem IsS88P.cell_4 {P : Nat → Prop} {w0 W : World} {g : Nat} {f0 : Int} {f1 : Int} {f2 : Int} {f3 : Int} {f4 : Int} {f5 : List Int} {f6 : List Int} {f7 : Int} (h : IsS88P P w0 W g f0 f1 f2 f3 f4 f5 f6 f7) : W.cell? ⟨g, 4, none⟩ = some (.int .i64 f4) := by
 obtain ⟨A5, c5, A6, c6, hb, hg, hr5, hr6, hP⟩ := h
 exact (blk_cell hb 4).trans rfl
theorem IsS88.cell_4 {w0 W : World} {g : Nat} {f0 : Int} {f1 : Int} {f2 : Int} {f3 : Int} {f4 : Int} {f5 : List Int} {f6 : List Int} {f7 : Int} (h : IsS88 w0 W g f0 f1 f2 f3 f4 f5 f6 f7) : W.cell? ⟨g, 4, none⟩ = some (.int .i64 f4) := IsS88P.cell_4 h
theorem IsS88P.froz_4 {P : Nat → Prop} {w0 W : World} {g : Nat} {f0 : Int} {f1 : Int} {f2 : Int} {f3 : Int} {f4 : Int} {f5 : List Int} {f6 : List Int} {f7 : Int} (h : IsS88P P w0 W g f0 f1 f2 f3 f4 f5 f6 f7) : W.frozen? ⟨g, 4, none⟩ = false := by
 obtain ⟨A5, c5, A6, c6, hb, hg, hr5, hr6, hP⟩ := h
 exact blk_frozen hb 4
theorem IsS88.froz_4 {w0 W : World} {g : Nat} {f0 : Int} {f1 : Int} {f2 : Int} {f3 : Int} {f4 : Int} {f5 : List Int} {f6 : List Int} {f7 : Int} (h : IsS88 w0 W g f0 f1 f2 f3 f4 f5 f6 f7) : W.frozen? ⟨g, 4, none⟩ = false := IsS88P.froz_4 h
theorem IsS88P.froz_5 {P : Nat → Prop} {w0 W : World} {g : Nat} {f0 : Int} {f1 : Int} {f2 : Int} {f3 : Int} {f4 : Int} {f5 : List Int} {f6 : List Int} {f7 : Int} (h : IsS88P P w0 W g f0 f1 f2 f3 f4 f5 f6 f7) : W.frozen? ⟨g, 5, none⟩ = false := by
 obtain ⟨A5, c5, A6, c6, hb, hg, hr5, hr6, hP⟩ := h
 exact blk_frozen hb 5
theorem IsS88.froz_5 {w0 W : World} {g : Nat} {f0 : Int} {f1 : Int} {f2 : Int} {f3 : Int} {f4 : Int} {f5 : List Int} {f6 : List Int} {f7 : Int} (h : IsS88 w0 W g f0 f1 f2 f3 f4 f5 f6 f7) : W.frozen? ⟨g, 5, none⟩ = false := IsS88P.froz_5 h
theorem IsS88P.froz_6 {P : Nat → Prop} {w0 W : World} {g : Nat} {f0 : Int} {f1 : Int} {f2 : Int} {f3 : Int} {f4 : Int} {f5 : List Int} {f6 : List Int} {f7 : Int} (h : IsS88P P w0 W g f0 f1 f2 f3 f4 f5 f6 f7) : W.frozen? ⟨g, 6, none⟩ = false := by
 obtain ⟨A5, c5, A6, c6, hb, hg, hr5, hr6, hP⟩ := h
 exact blk_frozen hb 6
theorem IsS88.froz_6 {w0 W : World} {g : Nat} {f0 : Int} {f1 : Int} {f2 : Int} {f3 : Int} {f4 : Int} {f5 : List Int} {f6 : List Int} {f7 : Int} (h : IsS88 w0 W g f0 f1 f2 f3 f4 f5 f6 f7) : W.frozen? ⟨g, 6, none⟩ = false := IsS88P.froz_6 h
theorem IsS88P.cell_7 {P : Nat → Prop} {w0 W : World} {g : Nat} {f0 : Int} {f1 : Int} {f2 : Int} {f3 : Int} {f4 : Int} {f5 : List Int} {f6 : List Int} {f7 : Int} (h : IsS88P P w0 W g f0 f1 f2 f3 f4 f5 f6 f7) : W.cell? ⟨g, 7, none⟩ = some (.int .i64 f7) := by
 obtain ⟨A5, c5, A6, c6, hb, hg, hr5, hr6, hP⟩ := h
 exact (blk_cell hb 7).trans rfl
theorem IsS88.cell_7 {w0 W : World} {g : Nat} {f0 : Int} {f1 : Int} {f2 : Int} {f3 : Int} {f4 : Int} {f5 : List Int} {f6 : List Int} {f7 : Int} (h : IsS88 w0 W g f0 f1 f2 f3 f4 f5 f6 f7) : W.cell? ⟨g, 7, none⟩ = some (.int .i64 f7) := IsS88P.cell_7 h
theorem cellS88_0 {W : World} {g : Nat} {A5 : Option Addr} {c5 : Nat} {A6 : Option Addr} {c6 : Nat} {f0 : Int} {f1 : Int} {f2 : Int} {f3 : Int} {f4 : Int} {f5 : List Int} {f6 : List Int} {f7 : Int} (h : W.heap[g]? = some (.cells #[.int .i64 f0, .int .i64 f1, .int .i64 f2, .int .i64 f3, .int .i64 f4, .slice A5 f5.length c5, .slice A6 f6.length c6, .int .i64 f7] 88 (0, 0))) : W.cell? ⟨g, 0, none⟩ = some (.int .i64 f0) := (blk_cell h 0).trans rfl
theorem IsS88P.set_0 {P : Nat → Prop} {w0 W : World} {g : Nat} {f0 : Int} {f1 : Int} {f2 : Int} {f3 : Int} {f4 : Int} {f5 : List Int} {f6 : List Int} {f7 : Int} (h : IsS88P P w0 W g f0 f1 f2 f3 f4 f5 f6 f7) (x : Int) : IsS88P P w0 (W.setCell ⟨g, 0, none⟩ (.int .i64 x)) g x f1 f2 f3 f4 f5 f6 f7 := by
 obtain ⟨A5, c5, A6, c6, hb, hg, hr5, hr6, hP⟩ := h
 exact ⟨A5, c5, A6, c6, by simpa using blk_set hb 0 (.int .i64 x), hg, Kd.Q_far hr5 (fun _ h => h.2) _, Kd.Q_far hr6 (fun _ h => h.1.2) _, hP⟩
theorem IsS88.set_0 {w0 W : World} {g : Nat} {f0 : Int} {f1 : Int} {f2 : Int} {f3 : Int} {f4 : Int} {f5 : List Int} {f6 : List Int} {f7 : Int} (h : IsS88 w0 W g f0 f1 f2 f3 f4 f5 f6 f7) (x : Int) : IsS88 w0 (W.setCell ⟨g, 0, none⟩ (.int .i64 x)) g x f1 f2 f3 f4 f5 f6 f7 := IsS88P.set_0 h x
theorem cellS88_1 {W : World} {g : Nat} {A5 : Option Addr} {c5 : Nat} {A6 : Option Addr} {c6 : Nat} {f0 : Int} {f1 : Int} {f2 : Int} {f3 : Int} {f4 : Int} {f5 : List Int} {f6 : List Int} {f7 : Int} (h : W.heap[g]? = some (.cells #[.int .i64 f0, .int .i64 f1, .int .i64 f2, .int .i64 f3, .int .i64 f4, .slice A5 f5.length c5, .slice A6 f6.length c6, .int .i64 f7] 88 (0, 0))) : W.cell? ⟨g, 1, none⟩ = some (.int .i64 f1) := (blk_cell h 1).trans rfl
theorem IsS88P.set_1 {P : Nat → Prop} {w0 W : World} {g : Nat} {f0 : Int} {f1 : Int} {f2 : Int} {f3 : Int} {f4 : Int} {f5 : List Int} {f6 : List Int} {f7 : Int} (h : IsS88P P w0 W g f0 f1 f2 f3 f4 f5 f6 f7) (x : Int) : IsS88P P w0 (W.setCell ⟨g, 1, none⟩ (.int .i64 x)) g f0 x f2 f3 f4 f5 f6 f7 := by
 obtain ⟨A5, c5, A6, c6, hb, hg, hr5, hr6, hP⟩ := h
 exact ⟨A5, c5, A6, c6, by simpa using blk_set hb 1 (.int .i64 x), hg, Kd.Q_far hr5 (fun _ h => h.2) _, Kd.Q_far hr6 (fun _ h => h.1.2) _, hP⟩
theorem IsS88.set_1 {w0 W : World} {g : Nat} {f0 : Int} {f1 : Int} {f2 : Int} {f3 : Int} {f4 : Int} {f5 : List Int} {f6 : List Int} {f7 : Int} (h : IsS88 w0 W g f0 f1 f2 f3 f4 f5 f6 f7) (x : Int) : IsS88 w0 (W.setCell ⟨g, 1, none⟩ (.int .i64 x)) g f0 x f2 f3 f4 f5 f6 f7 := IsS88P.set_1 h x
theorem cellS88_2 {W : World} {g : Nat} {A5 : Option Addr} {c5 : Nat} {A6 : Option Addr} {c6 : Nat} {f0 : Int} {f1 : Int} {f2 : Int} {f3 : Int} {f4 : Int} {f5 : List Int} {f6 : List Int} {f7 : Int} (h : W.heap[g]? = some (.cells #[.int .i64 f0, .int .i64 f1, .int .i64 f2, .int .i64 f3, .int .i64 f4, .slice A5 f5.length c5, .slice A6 f6.length c6, .int .i64 f7] 88 (0, 0))) : W.cell? ⟨g, 2, none⟩ = some (.int .i64 f2) := (blk_cell h 2).trans rfl
theorem IsS88P.set_2 {P : Nat → Prop} {w0 W : World} {g : Nat} {f0 : Int} {f1 : Int} {f2 : Int} {f3 : Int} {f4 : Int} {f5 : List Int} {f6 : List Int} {f7 : Int} (h : IsS88P P w0 W g f0 f1 f2 f3 f4 f5 f6 f7) (x : Int) : IsS88P P w0 (W.setCell ⟨g, 2, none⟩ (.int .i64 x)) g f0 f1 x f3 f4 f5 f6 f7 := by
 obtain ⟨A5, c5, A6, c6, hb, hg, hr5, hr6, hP⟩ := h
 exact ⟨A5, c5, A6, c6, by simpa using blk_set hb 2 (.int .i64 x), hg, Kd.Q_far hr5 (fun _ h => h.2) _, Kd.Q_far hr6 (fun _ h => h.1.2) _, hP⟩
theorem IsS88.set_2 {w0 W : World} {g : Nat} {f0 : Int} {f1 : Int} {f2 : Int} {f3 : Int} {f4 : Int} {f5 : List Int} {f6 : List Int} {f7 : Int} (h : IsS88 w0 W g f0 f1 f2 f3 f4 f5 f6 f7) (x : Int) : IsS88 w0 (W.setCell ⟨g, 2, none⟩ (.int .i64 x)) g f0 f1 x f3 f4 f5 f6 f7 := IsS88P.set_2 h x
theorem cellS88_3 {W : World} {g : Nat} {A5 : Option Addr} {c5 : Nat} {A6 : Option Addr} {c6 : Nat} {f0 : Int} {f1 : Int} {f2 : Int} {f3 : Int} {f4 : Int} {f5 : List Int} {f6 : List Int} {f7 : Int} (h : W.heap[g]? = some (.cells #[.int .i64 f0, .int .i64 f1, .int .i64 f2, .int .i64 f3, .int .i64 f4, .slice A5 f5.length c5, .slice A6 f6.length c6, .int .i64 f7] 88 (0, 0))) : W.cell? ⟨g, 3, none⟩ = some (.int .i64 f3) := (blk_cell h 3).trans rfl
theorem IsS88P.set_3 {P : Nat → Prop} {w0 W : World} {g : Nat} {f0 : Int} {f1 : Int} {f2 : Int} {f3 : Int} {f4 : Int} {f5 : List Int} {f6 : List Int} {f7 : Int} (h : IsS88P P w0 W g f0 f1 f2 f3 f4 f5 f6 f7) (x : Int) : IsS88P P w0 (W.setCell ⟨g, 3, none⟩ (.int .i64 x)) g f0 f1 f2 x f4 f5 f6 f7 := by
 obtain ⟨A5, c5, A6, c6, hb, hg, hr5, hr6, hP⟩ := h
 exact ⟨A5, c5, A6, c6, by simpa using blk_set hb 3 (.int .i64 x), hg, Kd.Q_far hr5 (fun _ h => h.2) _, Kd.Q_far hr6 (fun _ h => h.1.2) _, hP⟩
theorem IsS88.set_3 {w0 W : World} {g : Nat} {f0 : Int} {f1 : Int} {f2 : Int} {f3 : Int} {f4 : Int} {f5 : List Int} {f6 : List Int} {f7 : Int} (h : IsS88 w0 W g f0 f1 f2 f3 f4 f5 f6 f7) (x : Int) : IsS88 w0 (W.setCell ⟨g, 3, none⟩ (.int .i64 x)) g f0 f1 f2 x f4 f5 f6 f7 := IsS88P.set_3 h x
theorem cellS88_4 {W : World} {g : Nat} {A5 : Option Addr} {c5 : Nat} {A6 : Option Addr} {c6 : Nat} {f0 : Int} {f1 : Int} {f2 : Int} {f3 : Int} {f4 : Int} {f5 : List Int} {f6 : List Int} {f7 : Int} (h : W.heap[g]? = some (.cells #[.int .i64 f0, .int .i64 f1, .int .i64 f2, .int .i64 f3, .int .i64 f4, .slice A5 f5.length c5, .slice A6 f6.length c6, .int .i64 f7] 88 (0, 0))) : W.cell? ⟨g, 4, none⟩ = some (.int .i64 f4) := (blk_cell h 4).trans rfl
theorem IsS88P.set_4 {P : Nat → Prop} {w0 W : World} {g : Nat} {f0 : Int} {f1 : Int} {f2 : Int} {f3 : Int} {f4 : Int} {f5 : List Int} {f6 : List Int} {f7 : Int} (h : IsS88P P w0 W g f0 f1 f2 f3 f4 f5 f6 f7) (x : Int) : IsS88P P w0 (W.setCell ⟨g, 4, none⟩ (.int .i64 x)) g f0 f1 f2 f3 x f5 f6 f7 := by
 obtain ⟨A5, c5, A6, c6, hb, hg, hr5, hr6, hP⟩ := h
 exact ⟨A5, c5, A6, c6, by simpa using blk_set hb 4 (.int .i64 x), hg, Kd.Q_far hr5 (fun _ h => h.2) _, Kd.Q_far hr6 (fun _ h => h.1.2) _, hP⟩
theorem IsS88.set_4 {w0 W : World} {g : Nat} {f0 : Int} {f1 : Int} {f2 : Int} {f3 : Int} {f4 : Int} {f5 : List Int} {f6 : List Int} {f7 : Int} (h : IsS88 w0 W g f0 f1 f2 f3 f4 f5 f6 f7) (x : Int) : IsS88 w0 (W.setCell ⟨g, 4, none⟩ (.int .i64 x)) g f0 f1 f2 f3 x f5 f6 f7 := IsS88P.set_4 h x
theorem cellS88_5 {W : World} {g : Nat} {A5 : Option Addr} {c5 : Nat} {A6 : Option Addr} {c6 : Nat} {f0 : Int} {f1 : Int} {f2 : Int} {f3 : Int} {f4 : Int} {f5 : List Int} {f6 : List Int} {f7 : Int} (h : W.heap[g]? = some (.cells #[.int .i64 f0, .int .i64 f1, .int .i64 f2, .int .i64 f3, .int .i64 f4, .slice A5 f5.length c5, .slice A6 f6.length c6, .int .i64 f7] 88 (0, 0))) : W.cell? ⟨g, 5, none⟩ = some (.slice A5 f5.length c5) := (blk_cell h 5).trans rfl
theorem cellS88_6 {W : World} {g : Nat} {A5 : Option Addr} {c5 : Nat} {A6 : Option Addr} {c6 : Nat} {f0 : Int} {f1 : Int} {f2 : Int} {f3 : Int} {f4 : Int} {f5 : List Int} {f6 : List Int} {f7 : Int} (h : W.heap[g]? = some (.cells #[.int .i64 f0, .int .i64 f1, .int .i64 f2, .int .i64 f3, .int .i64 f4, .slice A5 f5.length c5, .slice A6 f6.length c6, .int .i64 f7] 88 (0, 0))) : W.cell? ⟨g, 6, none⟩ = some (.slice A6 f6.length c6) := (blk_cell h 6).trans rfl
theorem cellS88_7 {W : World} {g : Nat} {A5 : Option Addr} {c5 : Nat} {A6 : Option Addr} {c6 : Nat} {f0 : Int} {f1 : Int} {f2 : Int} {f3 : Int} {f4 : Int} {f5 : List Int} {f6 : List Int} {f7 : Int} (h : W.heap[g]? = some (.cells #[.int .i64 f0, .int .i64 f1, .int .i64 f2, .int .i64 f3, .int .i64 f4, .slice A5 f5.length c5, .slice A6 f6.length c6, .int .i64 f7] 88 (0, 0))) : W.cell? ⟨g, 7, none⟩ = some (.int .i64 f7) := (blk_cell h 7).trans rfl
theorem IsS88P.set_7 {P : Nat → Prop} {w0 W : World} {g : Nat} {f0 : Int} {f1 : Int} {f2 : Int} {f3 : Int} {f4 : Int} {f5 : List Int} {f6 : List Int} {f7 : Int} (h : IsS88P P w0 W g f0 f1 f2 f3 f4 f5 f6 f7) (x : Int) : IsS88P P w0 (W.setCell ⟨g, 7, none⟩ (.int .i64 x)) g f0 f1 f2 f3 f4 f5 f6 x := by
 obtain ⟨A5, c5, A6, c6, hb, hg, hr5, hr6, hP⟩ := h
 exact ⟨A5, c5, A6, c6, by simpa using blk_set hb 7 (.int .i64 x), hg, Kd.Q_far hr5 (fun _ h => h.2) _, Kd.Q_far hr6 (fun _ h => h.1.2) _, hP⟩
theorem IsS88.set_7 {w0 W : World} {g : Nat} {f0 : Int} {f1 : Int} {f2 : Int} {f3 : Int} {f4 : Int} {f5 : List Int} {f6 : List Int} {f7 : Int} (h : IsS88 w0 W g f0 f1 f2 f3 f4 f5 f6 f7) (x : Int) : IsS88 w0 (W.setCell ⟨g, 7, none⟩ (.int .i64 x)) g f0 f1 f2 f3 f4 f5 f6 x := IsS88P.set_7 h x
theorem IsS88P.mono {P P' : Nat → Prop} {w0 W : World} {g : Nat} {f0 : Int} {f1 : Int} {f2 : Int} {f3 : Int} {f4 : Int} {f5 : List Int} {f6 : List Int} {f7 : Int} (h : IsS88P P w0 W g f0 f1 f2 f3 f4 f5 f6 f7) (hP : ∀ k, P k → P' k) : IsS88P P' w0 W g f0 f1 f2 f3 f4 f5 f6 f7 := by
 obtain ⟨A5, c5, A6, c6, hb, hg, hr5, hr6, hp⟩ := h
 exact ⟨A5, c5, A6, c6, hb, hg, Kd.Q_mono hr5 (fun _ h => ⟨hP _ h.1, h.2⟩), Kd.Q_mono hr6 (fun _ h => ⟨⟨hP _ h.1.1, h.1.2⟩, h.2⟩), hP _ hp⟩
def trend_New.made.f (a0 : Int) (a1 : Int) : Option (Int × Int × Int × Int × Int × List Int × List Int × Int × Int) := if a0 < 2 then (none) else (if a0 > 64 then (none) else (if a1 < 0 then (none) else (if a1 > 4294967296 then (none) else (some (a0, a1, 0, 0, 0, ([] : List Int), ([] : List Int), 0, 0)))))
set_option maxHeartbeats 8000000 in
set_option maxRecDepth 100000 in
theorem trend_New.made.calls (a0 : Int) (a1 : Int) (r1 : Int) (r2 : Int) (r3 : Int) (r4 : Int) (r5 : Int) (r6 : List Int) (r7 : List Int) (r8 : Int) (r9 : Int) (w0 w : World) (hB : Below w0.heap.size w0 w) (h : trend_New.made.f a0 a1 = some (r1, r2, r3, r4, r5, r6, r7, r8, r9)) :
  Calls Tryd.prog 17 #[.int .i64 a0, .int .i64 a1] w fun e w' => ∃ g_ : Nat, e = .returned (.tuple #[.pointer (some ⟨g_, 0, none⟩), .int .i64 r9]) ∧ IsS88 w0 w' g_ r1 r2 r3 r4 r5 r6 r7 r8 ∧ Below w0.heap.size w0 w' ∧ Below w.heap.size w w' := by
 have hu88 := Tryd.underlying88
 have HBW := aW (Below.refl w.heap.size w)
 have HW0 := aW hB.size
 have HB := aW hB
 clear hB
 have H : (if a0 < 2 then (none) else (if a0 > 64 then (none) else (if a1 < 0 then (none) else (if a1 > 4294967296 then (none) else (some (a0, a1, 0, 0, 0, ([] : List Int), ([] : List Int), 0, 0)))))) = some (r1, r2, r3, r4, r5, r6, r7, r8, r9) := h
 clear h
 by_cases c3 : a0 < 2
 ·rw [if_pos c3] at H
  exact absurd H (by simp)
 ·rw [if_neg c3] at H
  have c3b0 : decide (a0 < 2) = false := decide_eq_false c3
  clear c3
  by_cases c4 : a0 > 64
  ·rw [if_pos c4] at H
   exact absurd H (by simp)
  ·rw [if_neg c4] at H
   have c4b0 : decide (64 < a0) = false := decide_eq_false c4
   clear c4
   by_cases c5 : a1 < 0
   ·rw [if_pos c5] at H
    exact absurd H (by simp)
   ·rw [if_neg c5] at H
    have c5b0 : decide (a1 < 0) = false := decide_eq_false c5
    clear c5
    by_cases c6 : a1 > 4294967296
    ·rw [if_pos c6] at H
     exact absurd H (by simp)
    ·rw [if_neg c6] at H
     have c6b0 : decide (4294967296 < a1) = false := decide_eq_false c6
     clear c6
     simp only [Option.some.injEq, Prod.mk.injEq] at H
     obtain ⟨rfl, rfl, rfl, rfl, rfl, rfl, rfl, rfl, rfl⟩ := H
     go_enter Tryd.func17, Tryd.ntmps17
     go_wp2_with (first | ((with_reducible refine gate_dst (N := 23) rfl ?_); refine box_event ?hg (N := 23) ?hd (cs := #[.int .i64 a0, .int .i64 a1, .int .i64 0, .int .i64 0, .int .i64 0, .slice none 0 0, .slice none 0 0, .int .i64 0]) (t := 88) ?hr ?_; (case hd => rfl); (case hg => rfl); (case hr => first | (go_simp; done) | (go_simp; rfl)); intro gb105 hg w7 hbox hb; have GE105 := aW ((Nat.le_trans HW0.out (by rw [hg]; exact (below_size o74) : w.heap.size ≤ gb105) : w0.heap.size ≤ gb105)); have GW105 := aW ((by rw [hg]; exact (below_size o74) : w.heap.size ≤ gb105)); have BK105 := aW (hbox); replace HB := aW (below_step o76 hb); replace HBW := aW (below_step o74 hb); clear hb hbox hg))
     go_ret2
     exact ⟨_, rfl, (show IsS88 w0 _ gb105 a0 a1 0 0 0 ([] : List Int) ([] : List Int) 0 from ⟨none, 0, none, 0, by (with_reducible repeat (first | refine blk_drewN ?_ _ | refine blk_drew ?_ | refine blk_alloc ?_ _)); exact BK105.out, GE105.out, (Kd.Q_nil _ _ _ _ _), (Kd.Q_nil _ _ _ _ _), trivial⟩), by repeat (first | (with_reducible first | exact HB.out | apply below_alloc | apply pw_below_drewN | apply below_drew1 | refine below_set ?_ GE105.out) | exact HB.out), by repeat (first | (with_reducible first | exact HBW.out | apply below_alloc | apply pw_below_drewN | apply below_drew1 | refine below_set ?_ GW105.out) | exact HBW.out)⟩
def sat_held.f (a0_0 : Int) (a0_1 : Int) : Option (Int) := if (IntKind.u64.wrap ((wrap64 (a0_1)) / 9223372036854775808)) = a0_0 then (some (wrap64 (a0_1))) else (if (wrap64 (a0_0)) < 0 then (some (-9223372036854775808)) else (some 9223372036854775807))
set_option maxHeartbeats 8000000 in
set_option maxRecDepth 100000 in
theorem sat_held.calls (a0_0 : Int) (a0_1 : Int) (r : Int) (w : World) (h : sat_held.f a0_0 a0_1 = some r) :
  Calls Tryd.prog 38 #[.agg #[.int .u64 a0_0, .int .u64 a0_1]] w fun e w' => e = .returned (.int .i64 r) ∧ Below w.heap.size w w' := by
 have hu97 := Tryd.underlying97
 have HB := aW (Below.refl w.heap.size w)
 have H : (if (IntKind.u64.wrap ((wrap64 (a0_1)) / 9223372036854775808)) = a0_0 then (some (wrap64 (a0_1))) else (if (wrap64 (a0_0)) < 0 then (some (-9223372036854775808)) else (some 9223372036854775807))) = some r := h
 clear h
 by_cases c2 : (IntKind.u64.wrap ((wrap64 (a0_1)) / 9223372036854775808)) = a0_0
 ·rw [if_pos c2] at H
  have c2b0 : ((IntKind.u64.wrap ((wrap64 (a0_1)) / 9223372036854775808)) == a0_0) = true := beq_iff_eq.mpr c2
  have c2b1 : ((IntKind.u64.wrap ((wrap64 (a0_1)) / 9223372036854775808)) != a0_0) = false := bne_eq_false_iff_eq.mpr c2
  clear c2
  obtain rfl := Option.some.inj H
  go_enter Tryd.func38, Tryd.ntmps38
  go_wp2_with (first | ((with_reducible refine gate_dst (N := 1) rfl ?_); refine box_event ?hg (N := 1) ?hd (cs := #[.int .u64 a0_0, .int .u64 a0_1]) (t := 97) ?hr ?_; (case hd => rfl); (case hg => rfl); (case hr => first | (go_simp; done) | (go_simp; rfl)); intro gb107 hg w3 hbox hb; have GE107 := aW ((by rw [hg]; exact (below_size o76) : w.heap.size ≤ gb107)); have GW107 := aW ((by rw [hg]; exact (below_size o76) : w.heap.size ≤ gb107)); have BK107 := aW (hbox); replace HB := aW (below_step o76 hb); clear hb hbox hg; have hcz4_0 : w3.cell? ⟨gb107, 0, none⟩ = some (.int .u64 a0_0) := (blk_cell BK107.out 0).trans rfl; have hcz4_1 : w3.cell? ⟨gb107, 1, none⟩ = some (.int .u64 a0_1) := (blk_cell BK107.out 1).trans rfl; have hfz4_0 := blk_frozen BK107.out 0; have hfz4_1 := blk_frozen BK107.out 1))
  go_ret
  exact ⟨o95, o63⟩
 ·rw [if_neg c2] at H
  have c2b0 : ((IntKind.u64.wrap ((wrap64 (a0_1)) / 9223372036854775808)) == a0_0) = false := beq_eq_false_iff_ne.mpr c2
  have c2b1 : ((IntKind.u64.wrap ((wrap64 (a0_1)) / 9223372036854775808)) != a0_0) = true := bne_iff_ne.mpr c2
  by_cases c5 : (wrap64 (a0_0)) < 0
  ·rw [if_pos c5] at H
   have c5b0 : decide ((wrap64 (a0_0)) < 0) = true := decide_eq_true c5
   clear c5
   obtain rfl := Option.some.inj H
   go_enter Tryd.func38, Tryd.ntmps38
   go_wp2_with (first | ((with_reducible refine gate_dst (N := 1) rfl ?_); refine box_event ?hg (N := 1) ?hd (cs := #[.int .u64 a0_0, .int .u64 a0_1]) (t := 97) ?hr ?_; (case hd => rfl); (case hg => rfl); (case hr => first | (go_simp; done) | (go_simp; rfl)); intro gb107 hg w6 hbox hb; have GE107 := aW ((by rw [hg]; exact (below_size o76) : w.heap.size ≤ gb107)); have GW107 := aW ((by rw [hg]; exact (below_size o76) : w.heap.size ≤ gb107)); have BK107 := aW (hbox); replace HB := aW (below_step o76 hb); clear hb hbox hg; have hcz7_0 : w6.cell? ⟨gb107, 0, none⟩ = some (.int .u64 a0_0) := (blk_cell BK107.out 0).trans rfl; have hcz7_1 : w6.cell? ⟨gb107, 1, none⟩ = some (.int .u64 a0_1) := (blk_cell BK107.out 1).trans rfl; have hfz7_0 := blk_frozen BK107.out 0; have hfz7_1 := blk_frozen BK107.out 1))
   go_ret
   exact ⟨o95, o63⟩
  ·rw [if_neg c5] at H
   have c5b0 : decide ((wrap64 (a0_0)) < 0) = false := decide_eq_false c5
   clear c5
   obtain rfl := Option.some.inj H
   go_enter Tryd.func38, Tryd.ntmps38
   go_wp2_with (first | ((with_reducible refine gate_dst (N := 1) rfl ?_); refine box_event ?hg (N := 1) ?hd (cs := #[.int .u64 a0_0, .int .u64 a0_1]) (t := 97) ?hr ?_; (case hd => rfl); (case hg => rfl); (case hr => first | (go_simp; done) | (go_simp; rfl)); intro gb107 hg w8 hbox hb; have GE107 := aW ((by rw [hg]; exact (below_size o76) : w.heap.size ≤ gb107)); have GW107 := aW ((by rw [hg]; exact (below_size o76) : w.heap.size ≤ gb107)); have BK107 := aW (hbox); replace HB := aW (below_step o76 hb); clear hb hbox hg; have hcz9_0 : w8.cell? ⟨gb107, 0, none⟩ = some (.int .u64 a0_0) := (blk_cell BK107.out 0).trans rfl; have hcz9_1 : w8.cell? ⟨gb107, 1, none⟩ = some (.int .u64 a0_1) := (blk_cell BK107.out 1).trans rfl; have hfz9_0 := blk_frozen BK107.out 0; have hfz9_1 := blk_frozen BK107.out 1))
   go_ret
   exact ⟨o95, o63⟩
def bits_Mul64.f (a0 : Int) (a1 : Int) : Option (Int × Int) := some (IntKind.u64.wrap ((IntKind.u64.wrap ((IntKind.u64.wrap ((a0 / 4294967296) * (a1 / 4294967296))) + ((IntKind.u64.wrap ((IntKind.u64.wrap ((a0 / 4294967296) * (Go.bits .and .u64 a1 4294967295))) + ((IntKind.u64.wrap ((Go.bits .and .u64 a0 4294967295) * (Go.bits .and .u64 a1 4294967295))) / 4294967296))) / 4294967296))) + ((IntKind.u64.wrap ((Go.bits .and .u64 (IntKind.u64.wrap ((IntKind.u64.wrap ((a0 / 4294967296) * (Go.bits .and .u64 a1 4294967295))) + ((IntKind.u64.wrap ((Go.bits .and .u64 a0 4294967295) * (Go.bits .and .u64 a1 4294967295))) / 4294967296))) 4294967295) + (IntKind.u64.wrap ((Go.bits .and .u64 a0 4294967295) * (a1 / 4294967296))))) / 4294967296)), IntKind.u64.wrap (a0 * a1))
set_option maxHeartbeats 8000000 in
set_option maxRecDepth 100000 in
theorem bits_Mul64.calls (a0 : Int) (a1 : Int) (r1 : Int) (r2 : Int) (w : World) (h : bits_Mul64.f a0 a1 = some (r1, r2)) :
  Calls Tryd.prog 47 #[.int .u64 a0, .int .u64 a1] w fun e w' => e = .returned (.tuple #[.int .u64 r1, .int .u64 r2]) ∧ Drawn0 w w' := by
 have H : (some (IntKind.u64.wrap ((IntKind.u64.wrap ((IntKind.u64.wrap ((a0 / 4294967296) * (a1 / 4294967296))) + ((IntKind.u64.wrap ((IntKind.u64.wrap ((a0 / 4294967296) * (Go.bits .and .u64 a1 4294967295))) + ((IntKind.u64.wrap ((Go.bits .and .u64 a0 4294967295) * (Go.bits .and .u64 a1 4294967295))) / 4294967296))) / 4294967296))) + ((IntKind.u64.wrap ((Go.bits .and .u64 (IntKind.u64.wrap ((IntKind.u64.wrap ((a0 / 4294967296) * (Go.bits .and .u64 a1 4294967295))) + ((IntKind.u64.wrap ((Go.bits .and .u64 a0 4294967295) * (Go.bits .and .u64 a1 4294967295))) / 4294967296))) 4294967295) + (IntKind.u64.wrap ((Go.bits .and .u64 a0 4294967295) * (a1 / 4294967296))))) / 4294967296)), IntKind.u64.wrap (a0 * a1))) = some (r1, r2) := h
 clear h
 simp only [Option.some.injEq, Prod.mk.injEq] at H
 obtain ⟨rfl, rfl⟩ := H
 go_enter Tryd.func47, Tryd.ntmps47
 go_wp2
 go_ret2
 exact ⟨o106, o101⟩
def sat_Mul.f (a0 : Int) (a1 : Int) : Option (Int) := (bits_Mul64.f (IntKind.u64.wrap (a0)) (IntKind.u64.wrap (a1))).bind fun bt108 => ((sat_held.f (IntKind.u64.wrap (bt108.1 - (IntKind.u64.wrap ((Go.bits .and .u64 (IntKind.u64.wrap (a0 / 9223372036854775808)) (IntKind.u64.wrap (a1))) + (Go.bits .and .u64 (IntKind.u64.wrap (a1 / 9223372036854775808)) (IntKind.u64.wrap (a0))))))) bt108.2).bind fun t110 => (some t110))
set_option maxHeartbeats 8000000 in
set_option maxRecDepth 100000 in
theorem sat_Mul.calls (a0 : Int) (a1 : Int) (r : Int) (w : World) (h : sat_Mul.f a0 a1 = some r) :
  Calls Tryd.prog 35 #[.int .i64 a0, .int .i64 a1] w fun e w' => e = .returned (.int .i64 r) ∧ Below w.heap.size w w' := by
 have hu97 := Tryd.underlying97
 have HB := aW (Below.refl w.heap.size w)
 have H : ((bits_Mul64.f (IntKind.u64.wrap (a0)) (IntKind.u64.wrap (a1))).bind fun bt108 => ((sat_held.f (IntKind.u64.wrap (bt108.1 - (IntKind.u64.wrap ((Go.bits .and .u64 (IntKind.u64.wrap (a0 / 9223372036854775808)) (IntKind.u64.wrap (a1))) + (Go.bits .and .u64 (IntKind.u64.wrap (a1 / 9223372036854775808)) (IntKind.u64.wrap (a0))))))) bt108.2).bind fun t110 => (some t110))) = some r := h
 clear h
 replace H := Option.bind_eq_some_iff.mp H
 obtain ⟨⟨t108, t109⟩, A30, H⟩ := H
 replace H : ((sat_held.f (IntKind.u64.wrap (t108 - (IntKind.u64.wrap ((Go.bits .and .u64 (IntKind.u64.wrap (a0 / 9223372036854775808)) (IntKind.u64.wrap (a1))) + (Go.bits .and .u64 (IntKind.u64.wrap (a1 / 9223372036854775808)) (IntKind.u64.wrap (a0))))))) t109).bind fun t110 => (some t110)) = some r := H
 have A3 := aW A30
 clear A30
 obtain ⟨t110, A4, H⟩ := bw H
 obtain rfl := Option.some.inj H
 go_enter Tryd.func35, Tryd.ntmps35
 go_wp2_with (first | ((with_reducible refine gate_callee (f := 47) rfl ?_); refine gL_ 12 Tryd.func47 #[.int .u64 (IntKind.u64.wrap (a0)), .int .u64 (IntKind.u64.wrap (a1))] ?_; (with_reducible refine (bits_Mul64.calls (IntKind.u64.wrap (a0)) (IntKind.u64.wrap (a1)) t108 t109 _ A3.out).mono ?_); rintro e w' ⟨rfl, ⟨nd, rfl⟩⟩; refine ⟨_, rfl, ?_⟩) | ((with_reducible refine gate_callee (f := 38) rfl ?_); refine gL_ 33 Tryd.func38 #[.agg #[.int .u64 (IntKind.u64.wrap (t108 - (IntKind.u64.wrap ((Go.bits .and .u64 (IntKind.u64.wrap (a0 / 9223372036854775808)) (IntKind.u64.wrap (a1))) + (Go.bits .and .u64 (IntKind.u64.wrap (a1 / 9223372036854775808)) (IntKind.u64.wrap (a0))))))), .int .u64 t109]] ?_; (with_reducible refine (sat_held.calls (IntKind.u64.wrap (t108 - (IntKind.u64.wrap ((Go.bits .and .u64 (IntKind.u64.wrap (a0 / 9223372036854775808)) (IntKind.u64.wrap (a1))) + (Go.bits .and .u64 (IntKind.u64.wrap (a1 / 9223372036854775808)) (IntKind.u64.wrap (a0))))))) t109 t110 _ A4.out).mono ?_); rintro e w5 ⟨rfl, hb⟩; refine ⟨_, rfl, ?_⟩; replace HB := aW (below_step o76 hb); (try clear hb); (try clear hb2); (try clear hk); (try clear hi)))
 go_ret
 exact ⟨o95, o77⟩
def fixed_Of.f (a0 : Int) : Option (Int) := (sat_Mul.f a0 4294967296).bind fun t111 => (some t111)
set_option maxHeartbeats 8000000 in
set_option maxRecDepth 100000 in
theorem fixed_Of.calls (a0 : Int) (r : Int) (w : World) (h : fixed_Of.f a0 = some r) :
  Calls Tryd.prog 30 #[.int .i64 a0] w fun e w' => e = .returned (.int .i64 r) ∧ Below w.heap.size w w' := by
 have HB := aW (Below.refl w.heap.size w)
 have H : ((sat_Mul.f a0 4294967296).bind fun t111 => (some t111)) = some r := h
 clear h
 obtain ⟨t111, A2, H⟩ := bw H
 obtain rfl := Option.some.inj H
 go_enter Tryd.func30, Tryd.ntmps30
 go_wp2_with (first | ((with_reducible refine gate_callee (f := 35) rfl ?_); refine gL_ 4 Tryd.func35 #[.int .i64 a0, .int .i64 4294967296] ?_; (with_reducible refine (sat_Mul.calls a0 4294967296 t111 _ A2.out).mono ?_); rintro e w3 ⟨rfl, hb⟩; refine ⟨_, rfl, ?_⟩; replace HB := aW (below_step o76 hb); (try clear hb); (try clear hb2); (try clear hk); (try clear hi)))
 go_ret
 exact ⟨o95, o77⟩
end Go.Proofs.YtphgeljglhjamaaDoor.P
end

section
namespace Go.Proofs.YtphgeljglhjamaaDoor.P
open Go.RowKit Go.Proofs.YtphgeljglhjamaaDoorW.PrintWords Go.Proofs.YtphgeljglhjamaaDoorW.PrintLast Go.Proofs.YtphgeljglhjamaaDoorW.PrintMore
attribute [local go_sem] max2_int min2_int max_two min_two max_three min_three max_four min_four
set_option linter.unusedVariables false
set_option linter.unusedSimpArgs false
def IsS91 (w0 W : World) (g : Nat) (f0 : Int) (f1 : Int) (f2 : Int) (f3 : Int) (f4 : Int) (f5 : Int) : Prop := W.heap[g]? = some (.cells #[.int .i64 f0, .int .i64 f1, .int .i64 f2, .int .i64 f3, .int .i64 f4, .int .i64 f5] 91 (0, 0)) ∧ w0.heap.size ≤ g
theorem IsS91.grown {w0 W : World} {g : Nat} {f0 : Int} {f1 : Int} {f2 : Int} {f3 : Int} {f4 : Int} {f5 : Int} {W1 : World} {row : Option Nat} (h : IsS91 w0 W g f0 f1 f2 f3 f4 f5) (hw : W.grownBy W1 row) (hne : some g ≠ row) : IsS91 w0 W1 g f0 f1 f2 f3 f4 f5 := by
 obtain ⟨hb, hg⟩ := h
 exact ⟨blk_grown hb hw hne, hg⟩
theorem IsS91.fresh {w0 W : World} {g : Nat} {f0 : Int} {f1 : Int} {f2 : Int} {f3 : Int} {f4 : Int} {f5 : Int} (h : IsS91 w0 W g f0 f1 f2 f3 f4 f5) : ∀ k, W.heap.size ≤ k → k ≠ g := by
 obtain ⟨hb, hg⟩ := h
 exact Kd.freshB hb
theorem IsS91.blk {w0 W : World} {g : Nat} {f0 : Int} {f1 : Int} {f2 : Int} {f3 : Int} {f4 : Int} {f5 : Int} (h : IsS91 w0 W g f0 f1 f2 f3 f4 f5) : ∃ cs, W.heap[g]? = some (.cells cs 91 (0, 0)) := by
 obtain ⟨hb, hg⟩ := h
 exact ⟨_, hb⟩
theorem IsS91.below {w0 W : World} {g : Nat} {f0 : Int} {f1 : Int} {f2 : Int} {f3 : Int} {f4 : Int} {f5 : Int} {W1 : World} (h : IsS91 w0 W g f0 f1 f2 f3 f4 f5) (hw : Below W.heap.size W W1) : IsS91 w0 W1 g f0 f1 f2 f3 f4 f5 := h.grown (grown_of_below hw none) (by simp)
theorem IsS91.alloc {w0 W : World} {g : Nat} {f0 : Int} {f1 : Int} {f2 : Int} {f3 : Int} {f4 : Int} {f5 : Int} (h : IsS91 w0 W g f0 f1 f2 f3 f4 f5) (o : Obj) : IsS91 w0 (W.alloc o) g f0 f1 f2 f3 f4 f5 := h.below (below_alloc bR o)
theorem IsS91.drewN {w0 W : World} {g : Nat} {f0 : Int} {f1 : Int} {f2 : Int} {f3 : Int} {f4 : Int} {f5 : Int} (h : IsS91 w0 W g f0 f1 f2 f3 f4 f5) (m : Nat) : IsS91 w0 (W.drewN m) g f0 f1 f2 f3 f4 f5 := h
theorem IsS91.drew {w0 W : World} {g : Nat} {f0 : Int} {f1 : Int} {f2 : Int} {f3 : Int} {f4 : Int} {f5 : Int} (h : IsS91 w0 W g f0 f1 f2 f3 f4 f5) : IsS91 w0 W.drew g f0 f1 f2 f3 f4 f5 := h
theorem IsS91.lt {w0 W : World} {g : Nat} {f0 : Int} {f1 : Int} {f2 : Int} {f3 : Int} {f4 : Int} {f5 : Int} (h : IsS91 w0 W g f0 f1 f2 f3 f4 f5) : g < W.heap.size := by
 obtain ⟨hb, hg⟩ := h
 exact blk_lt hb
theorem IsS91.ge {w0 W : World} {g : Nat} {f0 : Int} {f1 : Int} {f2 : Int} {f3 : Int} {f4 : Int} {f5 : Int} (h : IsS91 w0 W g f0 f1 f2 f3 f4 f5) : w0.heap.size ≤ g := by
 obtain ⟨hb, hg⟩ := h
 exact hg
theorem IsS91.ne_blk {w0 W : World} {g : Nat} {f0 : Int} {f1 : Int} {f2 : Int} {f3 : Int} {f4 : Int} {f5 : Int} {a : Nat} {cs : Array Value} {t : TypeId} {fr : Nat × Nat} (h : IsS91 w0 W g f0 f1 f2 f3 f4 f5) (hb2 : W.heap[a]? = some (.cells cs t fr)) (ht : t ≠ 91) : g ≠ a := by
 obtain ⟨hb, hg⟩ := h
 rintro rfl
 rw [hb] at hb2
 injection hb2 with hb2
 injection hb2 with _ ht2
 exact ht ht2.symm
theorem IsS91.far {w0 W : World} {g : Nat} {f0 : Int} {f1 : Int} {f2 : Int} {f3 : Int} {f4 : Int} {f5 : Int} {p : Addr} (h : IsS91 w0 W g f0 f1 f2 f3 f4 f5) (hne : g ≠ p.block) (u : Value) : IsS91 w0 (W.setCell p u) g f0 f1 f2 f3 f4 f5 := by
 obtain ⟨hb, hg⟩ := h
 exact ⟨blk_far hb hne u, hg⟩
theorem IsS91.cell_0 {w0 W : World} {g : Nat} {f0 : Int} {f1 : Int} {f2 : Int} {f3 : Int} {f4 : Int} {f5 : Int} (h : IsS91 w0 W g f0 f1 f2 f3 f4 f5) : W.cell? ⟨g, 0, none⟩ = some (.int .i64 f0) := by
 obtain ⟨hb, hg⟩ := h
 exact (blk_cell hb 0).trans rfl
theorem IsS91.froz_0 {w0 W : World} {g : Nat} {f0 : Int} {f1 : Int} {f2 : Int} {f3 : Int} {f4 : Int} {f5 : Int} (h : IsS91 w0 W g f0 f1 f2 f3 f4 f5) : W.frozen? ⟨g, 0, none⟩ = false := by
 obtain ⟨hb, hg⟩ := h
 exact blk_frozen hb 0
theorem IsS91.cell_1 {w0 W : World} {g : Nat} {f0 : Int} {f1 : Int} {f2 : Int} {f3 : Int} {f4 : Int} {f5 : Int} (h : IsS91 w0 W g f0 f1 f2 f3 f4 f5) : W.cell? ⟨g, 1, none⟩ = some (.int .i64 f1) := by
 obtain ⟨hb, hg⟩ := h
 exact (blk_cell hb 1).trans rfl
theorem IsS91.froz_1 {w0 W : World} {g : Nat} {f0 : Int} {f1 : Int} {f2 : Int} {f3 : Int} {f4 : Int} {f5 : Int} (h : IsS91 w0 W g f0 f1 f2 f3 f4 f5) : W.frozen? ⟨g, 1, none⟩ = false := by
 obtain ⟨hb, hg⟩ := h
 exact blk_frozen hb 1
theorem IsS91.cell_2 {w0 W : World} {g : Nat} {f0 : Int} {f1 : Int} {f2 : Int} {f3 : Int} {f4 : Int} {f5 : Int} (h : IsS91 w0 W g f0 f1 f2 f3 f4 f5) : W.cell? ⟨g, 2, none⟩ = some (.int .i64 f2) := by
 obtain ⟨hb, hg⟩ := h
 exact (blk_cell hb 2).trans rfl
theorem IsS91.froz_2 {w0 W : World} {g : Nat} {f0 : Int} {f1 : Int} {f2 : Int} {f3 : Int} {f4 : Int} {f5 : Int} (h : IsS91 w0 W g f0 f1 f2 f3 f4 f5) : W.frozen? ⟨g, 2, none⟩ = false := by
 obtain ⟨hb, hg⟩ := h
 exact blk_frozen hb 2
theorem IsS91.cell_3 {w0 W : World} {g : Nat} {f0 : Int} {f1 : Int} {f2 : Int} {f3 : Int} {f4 : Int} {f5 : Int} (h : IsS91 w0 W g f0 f1 f2 f3 f4 f5) : W.cell? ⟨g, 3, none⟩ = some (.int .i64 f3) := by
 obtain ⟨hb, hg⟩ := h
 exact (blk_cell hb 3).trans rfl
theorem IsS91.froz_3 {w0 W : World} {g : Nat} {f0 : Int} {f1 : Int} {f2 : Int} {f3 : Int} {f4 : Int} {f5 : Int} (h : IsS91 w0 W g f0 f1 f2 f3 f4 f5) : W.frozen? ⟨g, 3, none⟩ = false := by
 obtain ⟨hb, hg⟩ := h
 exact blk_frozen hb 3
theorem IsS91.cell_4 {w0 W : World} {g : Nat} {f0 : Int} {f1 : Int} {f2 : Int} {f3 : Int} {f4 : Int} {f5 : Int} (h : IsS91 w0 W g f0 f1 f2 f3 f4 f5) : W.cell? ⟨g, 4, none⟩ = some (.int .i64 f4) := by
 obtain ⟨hb, hg⟩ := h
 exact (blk_cell hb 4).trans rfl
theorem IsS91.froz_4 {w0 W : World} {g : Nat} {f0 : Int} {f1 : Int} {f2 : Int} {f3 : Int} {f4 : Int} {f5 : Int} (h : IsS91 w0 W g f0 f1 f2 f3 f4 f5) : W.frozen? ⟨g, 4, none⟩ = false := by
 obtain ⟨hb, hg⟩ := h
 exact blk_frozen hb 4
theorem IsS91.cell_5 {w0 W : World} {g : Nat} {f0 : Int} {f1 : Int} {f2 : Int} {f3 : Int} {f4 : Int} {f5 : Int} (h : IsS91 w0 W g f0 f1 f2 f3 f4 f5) : W.cell? ⟨g, 5, none⟩ = some (.int .i64 f5) := by
 obtain ⟨hb, hg⟩ := h
 exact (blk_cell hb 5).trans rfl
theorem IsS91.froz_5 {w0 W : World} {g : Nat} {f0 : Int} {f1 : Int} {f2 : Int} {f3 : Int} {f4 : Int} {f5 : Int} (h : IsS91 w0 W g f0 f1 f2 f3 f4 f5) : W.frozen? ⟨g, 5, none⟩ = false := by
 obtain ⟨hb, hg⟩ := h
 exact blk_frozen hb 5
theorem IsS91.rebase {w0 W : World} {g : Nat} {f0 : Int} {f1 : Int} {f2 : Int} {f3 : Int} {f4 : Int} {f5 : Int} {w1 : World} (h : IsS91 w1 W g f0 f1 f2 f3 f4 f5) (hl : w0.heap.size ≤ w1.heap.size) : IsS91 w0 W g f0 f1 f2 f3 f4 f5 := by
 obtain ⟨hb, hg⟩ := h
 exact ⟨hb, Nat.le_trans hl hg⟩
theorem cellS91_0 {W : World} {g : Nat} {f0 : Int} {f1 : Int} {f2 : Int} {f3 : Int} {f4 : Int} {f5 : Int} (h : W.heap[g]? = some (.cells #[.int .i64 f0, .int .i64 f1, .int .i64 f2, .int .i64 f3, .int .i64 f4, .int .i64 f5] 91 (0, 0))) : W.cell? ⟨g, 0, none⟩ = some (.int .i64 f0) := (blk_cell h 0).trans rfl
theorem IsS91.set_0 {w0 W : World} {g : Nat} {f0 : Int} {f1 : Int} {f2 : Int} {f3 : Int} {f4 : Int} {f5 : Int} (h : IsS91 w0 W g f0 f1 f2 f3 f4 f5) (x : Int) : IsS91 w0 (W.setCell ⟨g, 0, none⟩ (.int .i64 x)) g x f1 f2 f3 f4 f5 := by
 obtain ⟨hb, hg⟩ := h
 exact ⟨by simpa using blk_set hb 0 (.int .i64 x), hg⟩
theorem cellS91_1 {W : World} {g : Nat} {f0 : Int} {f1 : Int} {f2 : Int} {f3 : Int} {f4 : Int} {f5 : Int} (h : W.heap[g]? = some (.cells #[.int .i64 f0, .int .i64 f1, .int .i64 f2, .int .i64 f3, .int .i64 f4, .int .i64 f5] 91 (0, 0))) : W.cell? ⟨g, 1, none⟩ = some (.int .i64 f1) := (blk_cell h 1).trans rfl
theorem IsS91.set_1 {w0 W : World} {g : Nat} {f0 : Int} {f1 : Int} {f2 : Int} {f3 : Int} {f4 : Int} {f5 : Int} (h : IsS91 w0 W g f0 f1 f2 f3 f4 f5) (x : Int) : IsS91 w0 (W.setCell ⟨g, 1, none⟩ (.int .i64 x)) g f0 x f2 f3 f4 f5 := by
 obtain ⟨hb, hg⟩ := h
 exact ⟨by simpa using blk_set hb 1 (.int .i64 x), hg⟩
theorem cellS91_2 {W : World} {g : Nat} {f0 : Int} {f1 : Int} {f2 : Int} {f3 : Int} {f4 : Int} {f5 : Int} (h : W.heap[g]? = some (.cells #[.int .i64 f0, .int .i64 f1, .int .i64 f2, .int .i64 f3, .int .i64 f4, .int .i64 f5] 91 (0, 0))) : W.cell? ⟨g, 2, none⟩ = some (.int .i64 f2) := (blk_cell h 2).trans rfl
theorem IsS91.set_2 {w0 W : World} {g : Nat} {f0 : Int} {f1 : Int} {f2 : Int} {f3 : Int} {f4 : Int} {f5 : Int} (h : IsS91 w0 W g f0 f1 f2 f3 f4 f5) (x : Int) : IsS91 w0 (W.setCell ⟨g, 2, none⟩ (.int .i64 x)) g f0 f1 x f3 f4 f5 := by
 obtain ⟨hb, hg⟩ := h
 exact ⟨by simpa using blk_set hb 2 (.int .i64 x), hg⟩
theorem cellS91_3 {W : World} {g : Nat} {f0 : Int} {f1 : Int} {f2 : Int} {f3 : Int} {f4 : Int} {f5 : Int} (h : W.heap[g]? = some (.cells #[.int .i64 f0, .int .i64 f1, .int .i64 f2, .int .i64 f3, .int .i64 f4, .int .i64 f5] 91 (0, 0))) : W.cell? ⟨g, 3, none⟩ = some (.int .i64 f3) := (blk_cell h 3).trans rfl
theorem IsS91.set_3 {w0 W : World} {g : Nat} {f0 : Int} {f1 : Int} {f2 : Int} {f3 : Int} {f4 : Int} {f5 : Int} (h : IsS91 w0 W g f0 f1 f2 f3 f4 f5) (x : Int) : IsS91 w0 (W.setCell ⟨g, 3, none⟩ (.int .i64 x)) g f0 f1 f2 x f4 f5 := by
 obtain ⟨hb, hg⟩ := h
 exact ⟨by simpa using blk_set hb 3 (.int .i64 x), hg⟩
theorem cellS91_4 {W : World} {g : Nat} {f0 : Int} {f1 : Int} {f2 : Int} {f3 : Int} {f4 : Int} {f5 : Int} (h : W.heap[g]? = some (.cells #[.int .i64 f0, .int .i64 f1, .int .i64 f2, .int .i64 f3, .int .i64 f4, .int .i64 f5] 91 (0, 0))) : W.cell? ⟨g, 4, none⟩ = some (.int .i64 f4) := (blk_cell h 4).trans rfl
theorem IsS91.set_4 {w0 W : World} {g : Nat} {f0 : Int} {f1 : Int} {f2 : Int} {f3 : Int} {f4 : Int} {f5 : Int} (h : IsS91 w0 W g f0 f1 f2 f3 f4 f5) (x : Int) : IsS91 w0 (W.setCell ⟨g, 4, none⟩ (.int .i64 x)) g f0 f1 f2 f3 x f5 := by
 obtain ⟨hb, hg⟩ := h
 exact ⟨by simpa using blk_set hb 4 (.int .i64 x), hg⟩
theorem cellS91_5 {W : World} {g : Nat} {f0 : Int} {f1 : Int} {f2 : Int} {f3 : Int} {f4 : Int} {f5 : Int} (h : W.heap[g]? = some (.cells #[.int .i64 f0, .int .i64 f1, .int .i64 f2, .int .i64 f3, .int .i64 f4, .int .i64 f5] 91 (0, 0))) : W.cell? ⟨g, 5, none⟩ = some (.int .i64 f5) := (blk_cell h 5).trans rfl
theorem IsS91.set_5 {w0 W : World} {g : Nat} {f0 : Int} {f1 : Int} {f2 : Int} {f3 : Int} {f4 : Int} {f5 : Int} (h : IsS91 w0 W g f0 f1 f2 f3 f4 f5) (x : Int) : IsS91 w0 (W.setCell ⟨g, 5, none⟩ (.int .i64 x)) g f0 f1 f2 f3 f4 x := by
 obtain ⟨hb, hg⟩ := h
 exact ⟨by simpa using blk_set hb 5 (.int .i64 x), hg⟩
def detect_New.f  : Option (Int × Int × Int × Int × Int × Int) := (fixed_Of.f 25).bind fun t112 => (some (0, wrap64 (Int.tdiv t112 2), 0, 0, 0, 0))
set_option maxHeartbeats 8000000 in
set_option maxRecDepth 100000 in
theorem detect_New.calls  (r1 : Int) (r2 : Int) (r3 : Int) (r4 : Int) (r5 : Int) (r6 : Int) (w0 w : World) (hB : Below w0.heap.size w0 w) (h : detect_New.f  = some (r1, r2, r3, r4, r5, r6)) :
  Calls Tryd.prog 18 #[] w fun e w' => ∃ g_ : Nat, e = .returned (.pointer (some ⟨g_, 0, none⟩)) ∧ IsS91 w0 w' g_ r1 r2 r3 r4 r5 r6 ∧ Below w0.heap.size w0 w' ∧ Below w.heap.size w w' := by
 have hu91 := Tryd.underlying91
 have HBW := aW (Below.refl w.heap.size w)
 have HW0 := aW hB.size
 have HB := aW hB
 clear hB
 have H : ((fixed_Of.f 25).bind fun t112 => (some (0, wrap64 (Int.tdiv t112 2), 0, 0, 0, 0))) = some (r1, r2, r3, r4, r5, r6) := h
 clear h
 obtain ⟨t112, A1, H⟩ := bw H
 simp only [Option.some.injEq, Prod.mk.injEq] at H
 obtain ⟨rfl, rfl, rfl, rfl, rfl, rfl⟩ := H
 go_enter Tryd.func18, Tryd.ntmps18
 go_wp2_with (first | ((with_reducible refine gate_callee (f := 30) rfl ?_); refine gL_ 1 Tryd.func30 #[.int .i64 25] ?_; (with_reducible refine (fixed_Of.calls 25 t112 _ A1.out).mono ?_); rintro e w2 ⟨rfl, hb⟩; refine ⟨_, rfl, ?_⟩; replace HBW := aW (below_step o74 hb); replace HB := aW (below_step o76 hb); (try clear hb); (try clear hb2); (try clear hk); (try clear hi)) | ((with_reducible refine gate_dst (N := 4) rfl ?_); refine box_event ?hg (N := 4) ?hd (cs := #[.int .i64 0, .int .i64 (wrap64 (Int.tdiv t112 2)), .int .i64 0, .int .i64 0, .int .i64 0, .int .i64 0]) (t := 91) ?hr ?_; (case hd => rfl); (case hg => rfl); (case hr => first | (go_simp; done) | (go_simp; rfl)); intro gb113 hg w3 hbox hb; have GE113 := aW ((Nat.le_trans HW0.out (by rw [hg]; exact (below_size o74) : w.heap.size ≤ gb113) : w0.heap.size ≤ gb113)); have GW113 := aW ((by rw [hg]; exact (below_size o74) : w.heap.size ≤ gb113)); have BK113 := aW (hbox); replace HB := aW (below_step o76 hb); replace HBW := aW (below_step o74 hb); clear hb hbox hg))
 go_ret
 exact ⟨_, rfl, (show IsS91 w0 _ gb113 0 (wrap64 (Int.tdiv t112 2)) 0 0 0 0 from ⟨by (with_reducible repeat (first | refine blk_drewN ?_ _ | refine blk_drew ?_ | refine blk_alloc ?_ _)); exact BK113.out, GE113.out⟩), by repeat (first | (with_reducible first | exact HB.out | apply below_alloc | apply pw_below_drewN | apply below_drew1 | refine below_set ?_ GE113.out) | exact HB.out), by repeat (first | (with_reducible first | exact HBW.out | apply below_alloc | apply pw_below_drewN | apply below_drew1 | refine below_set ?_ GW113.out) | exact HBW.out)⟩
structure TrS where
 w : Int
 s : Int
 m : Int
 y : Int
 x : Int
 xs : List Int
 ys : List Int
 c : Int
structure GccS where
 g : GrS
 t : TrS
 a0 : Int
 a1 : Int
 a2 : Int
 a3 : Int
 a4 : Bool
 a5 : Int
 a6 : Int
 a7 : Bool
 a8 : Int
 l0 : Int
 l1 : Int
 l2 : Int
 l3 : Bool
 l4 : Int
 d0 : Int
 d1 : Int
 d2 : Int
 d3 : Int
 d4 : Int
 d5 : Int
 rtt : Int
structure G65 (w0 W : World) (g gr tr de ai lo : Nat) (s : GccS) : Prop where
 blk : W.heap[g]? = some (.cells #[.pointer (some ⟨gr, 0, none⟩), .pointer (some ⟨tr, 0, none⟩), .pointer (some ⟨de, 0, none⟩), .pointer (some ⟨ai, 0, none⟩), .pointer (some ⟨lo, 0, none⟩), .int .i64 s.rtt] 65 (0, 0))
 ge : w0.heap.size ≤ g
 gr : IsS85 w0 W gr s.g
 tr : IsS88 w0 W tr s.t.w s.t.s s.t.m s.t.y s.t.x s.t.xs s.t.ys s.t.c
 de : IsS91 w0 W de s.d0 s.d1 s.d2 s.d3 s.d4 s.d5
 ai : IsS76 w0 W ai s.a0 s.a1 s.a2 s.a3 s.a4 s.a5 s.a6 s.a7 s.a8
 lo : IsS78 w0 W lo s.l0 s.l1 s.l2 s.l3 s.l4
def IsS65 (w0 W : World) (g : Nat) (s : GccS) : Prop := ∃ gr tr de ai lo, G65 w0 W g gr tr de ai lo s
theorem IsS85.alloc {w0 W : World} {g : Nat} {s : GrS} (h : IsS85 w0 W g s) (o : Obj) : IsS85 w0 (W.alloc o) g s := h.below (below_alloc bR o)
theorem IsS85.drewN {w0 W : World} {g : Nat} {s : GrS} (h : IsS85 w0 W g s) (m : Nat) : IsS85 w0 (W.drewN m) g s := h.below (pw_below_drewN bR m)
theorem IsS85.drew {w0 W : World} {g : Nat} {s : GrS} (h : IsS85 w0 W g s) : IsS85 w0 W.drew g s := h.below (below_drew bR)
theorem Q2_same {W W1 : World} {base : Nat} {ok : Nat → Prop} {v : Value} {xs : List Int} (h : Kd.Q (Kd.int .i64) 2 W base ok v xs) (hk : ∀ (i : Nat) (cs : Array Value), W.heap[i]? = some (.cells cs 2 (0, 0)) → W1.heap[i]? = some (.cells cs 2 (0, 0))) : Kd.Q (Kd.int .i64) 2 W1 base ok v xs :=
 Kd.Q_mono (Kd.Q_move (Kd.Q_bound h) (fun k hh => by
  obtain ⟨_, _, _, q, hq, cells, hc⟩ := hh
  rcases List.mem_cons.1 hq with rfl | hq
  ·exact (hk k cells hc).trans hc.symm
  ·exact nomatch hq)) (fun _ hk => hk.1)
theorem Q2_typed {W : World} {base : Nat} {ok ok' : Nat → Prop} {v : Value} {xs : List Int} (h : Kd.Q (Kd.int .i64) 2 W base ok v xs) (hk : ∀ (i : Nat) (cs : Array Value), ok i → W.heap[i]? = some (.cells cs 2 (0, 0)) → ok' i) : Kd.Q (Kd.int .i64) 2 W base ok' v xs :=
 Kd.Q_mono (Kd.Q_bound h) (fun k hh => by
  obtain ⟨h1, _, _, q, hq, cells, hc⟩ := hh
  rcases List.mem_cons.1 hq with rfl | hq
  ·exact hk k cells h1 hc
  ·exact nomatch hq)
theorem IsS88.same {w0 W W1 : World} {g : Nat} {f0 f1 f2 f3 f4 : Int} {f5 f6 : List Int} {f7 : Int} (h : IsS88 w0 W g f0 f1 f2 f3 f4 f5 f6 f7) (hk : ∀ (i : Nat) (cs : Array Value) (t : TypeId), W.heap[i]? = some (.cells cs t (0, 0)) → t = 88 ∨ t = 2 → W1.heap[i]? = some (.cells cs t (0, 0))) : IsS88 w0 W1 g f0 f1 f2 f3 f4 f5 f6 f7 := by
 obtain ⟨A5, c5, A6, c6, hb, hg, h5, h6, hP⟩ := h
 exact ⟨A5, c5, A6, c6, hk _ _ _ hb (.inl rfl), hg, Q2_same h5 (fun i cs hi => hk i cs 2 hi (.inr rfl)), Q2_same h6 (fun i cs hi => hk i cs 2 hi (.inr rfl)), hP⟩
theorem IsS88.rebase {w0 w1 W : World} {g : Nat} {f0 f1 f2 f3 f4 : Int} {f5 f6 : List Int} {f7 : Int} (h : IsS88 w1 W g f0 f1 f2 f3 f4 f5 f6 f7) (hl : w0.heap.size ≤ w1.heap.size) : IsS88 w0 W g f0 f1 f2 f3 f4 f5 f6 f7 := by
 obtain ⟨A5, c5, A6, c6, hb, hg, h5, h6, hP⟩ := h
 exact ⟨A5, c5, A6, c6, hb, Nat.le_trans hl hg, Kd.Q_lower h5 hl, Kd.Q_lower h6 hl, hP⟩
theorem IsS88.block {w0 W : World} {g : Nat} {f0 f1 f2 f3 f4 : Int} {f5 f6 : List Int} {f7 : Int} (h : IsS88 w0 W g f0 f1 f2 f3 f4 f5 f6 f7) : ∃ cs, W.heap[g]? = some (.cells cs 88 (0, 0)) := by
 obtain ⟨A5, c5, A6, c6, hb, _⟩ := h
 exact ⟨_, hb⟩
theorem IsS88.keep {w0 W W1 : World} {g a : Nat} {f0 f1 f2 f3 f4 : Int} {f5 f6 : List Int} {f7 : Int} {cs : Array Value} {t : TypeId} (h : IsS88 w0 W g f0 f1 f2 f3 f4 f5 f6 f7) (hk : KeepBut W W1 a none) (ha : W.heap[a]? = some (.cells cs t (0, 0))) (h1 : t ≠ 88) (h2 : t ≠ 2) : IsS88 w0 W1 g f0 f1 f2 f3 f4 f5 f6 f7 :=
 IsS88.same h (fun i cs' t' hi ht => kb_at hk hi (bkt hi ha (by rcases ht with rfl | rfl; exact Ne.symm h1; exact Ne.symm h2)))
theorem IsS88.setr {w0 W : World} {g a i : Nat} {f0 f1 f2 f3 f4 : Int} {f5 f6 : List Int} {f7 : Int} {cs : Array Value} {t : TypeId} {u : Value} (h : IsS88 w0 W g f0 f1 f2 f3 f4 f5 f6 f7) (ha : W.heap[a]? = some (.cells cs t (0, 0))) (h1 : t ≠ 88) (h2 : t ≠ 2) : IsS88 w0 (W.setCell ⟨a, i, none⟩ u) g f0 f1 f2 f3 f4 f5 f6 f7 :=
 IsS88.same h (fun i cs' t' hi ht => far_t hi ha (by rcases ht with rfl | rfl; exact Ne.symm h1; exact Ne.symm h2))
def PT (W : World) (k : Nat) : Prop := W.heap.size ≤ k ∨ ∃ cells t, W.heap[k]? = some (.cells cells t (0, 0)) ∧ (t = 88 ∨ t = 2)
theorem pt_fresh {W : World} {j : Nat} (h : W.heap.size ≤ j) : PT W j := Or.inl h
theorem IsS88.own {w0 W : World} {g : Nat} {f0 f1 f2 f3 f4 : Int} {f5 f6 : List Int} {f7 : Int} (h : IsS88 w0 W g f0 f1 f2 f3 f4 f5 f6 f7) : IsS88P (PT W) w0 W g f0 f1 f2 f3 f4 f5 f6 f7 := by
 obtain ⟨A5, c5, A6, c6, hb, hg, h5, h6, _⟩ := h
 exact ⟨A5, c5, A6, c6, hb, hg, Q2_typed h5 (fun i cs hi hc => ⟨.inr ⟨_, _, hc, .inr rfl⟩, hi.2⟩), Q2_typed h6 (fun i cs hi hc => ⟨⟨.inr ⟨_, _, hc, .inr rfl⟩, hi.1.2⟩, hi.2⟩), .inr ⟨_, _, hb, .inl rfl⟩⟩
theorem pt_other {W W1 : World} {i : Nat} {cs : Array Value} {t : TypeId} (hk : Kept W W1 (PT W)) (hi : W.heap[i]? = some (.cells cs t (0, 0))) (h1 : t ≠ 88) (h2 : t ≠ 2) : W1.heap[i]? = some (.cells cs t (0, 0)) := by
 refine (hk.2 i (blk_lt hi) ?_).trans hi
 rintro (h | ⟨cells, t', hc, ht⟩)
 ·have := blk_lt hi; omega
 ·rw [hi] at hc
  injection hc with hc
  injection hc with _ hc _
  subst hc
  rcases ht with rfl | rfl
  ·exact h1 rfl
  ·exact h2 rfl
theorem IsS65.in_ {w0 W : World} {g gr tr de ai lo : Nat} {s : GccS} (h : G65 w0 W g gr tr de ai lo s) : IsS65 w0 W g s := ⟨gr, tr, de, ai, lo, h⟩
theorem G65.below {w0 W W1 : World} {g gr tr de ai lo : Nat} {s : GccS} (h : G65 w0 W g gr tr de ai lo s) (hb : Below W.heap.size W W1) : G65 w0 W1 g gr tr de ai lo s := ⟨blk_below h.blk hb, h.ge, IsS85.below h.gr hb, IsS88.below h.tr hb, IsS91.below h.de hb, IsS76.below h.ai hb, IsS78.below h.lo hb⟩
theorem IsS65.below {w0 W W1 : World} {g : Nat} {s : GccS} (h : IsS65 w0 W g s) (hb : Below W.heap.size W W1) : IsS65 w0 W1 g s := by
 obtain ⟨gr, tr, de, ai, lo, h⟩ := h
 exact ⟨gr, tr, de, ai, lo, h.below hb⟩
theorem IsS65.alloc {w0 W : World} {g : Nat} {s : GccS} (h : IsS65 w0 W g s) (o : Obj) : IsS65 w0 (W.alloc o) g s := h.below (below_alloc bR o)
theorem IsS65.drewN {w0 W : World} {g : Nat} {s : GccS} (h : IsS65 w0 W g s) (m : Nat) : IsS65 w0 (W.drewN m) g s := h.below (pw_below_drewN bR m)
theorem IsS65.drew {w0 W : World} {g : Nat} {s : GccS} (h : IsS65 w0 W g s) : IsS65 w0 W.drew g s := h.below (below_drew bR)
theorem IsS65.blk {w0 W : World} {g : Nat} {s : GccS} (h : IsS65 w0 W g s) : ∃ cs, W.heap[g]? = some (.cells cs 65 (0, 0)) := by
 obtain ⟨gr, tr, de, ai, lo, h⟩ := h
 exact ⟨_, h.blk⟩
theorem IsS65.ge {w0 W : World} {g : Nat} {s : GccS} (h : IsS65 w0 W g s) : w0.heap.size ≤ g := by
 obtain ⟨gr, tr, de, ai, lo, h⟩ := h
 exact h.ge
theorem IsS65.lt {w0 W : World} {g : Nat} {s : GccS} (h : IsS65 w0 W g s) : g < W.heap.size := by
 obtain ⟨cs, h⟩ := h.blk
 exact blk_lt h
theorem IsS65.fresh {w0 W : World} {g : Nat} {s : GccS} (h : IsS65 w0 W g s) : ∀ k, W.heap.size ≤ k → k ≠ g := by
 intro k hk e
 have := h.lt
 omega
theorem IsS65.rebase {w0 w1 W : World} {g : Nat} {s : GccS} (h : IsS65 w1 W g s) (hl : w0.heap.size ≤ w1.heap.size) : IsS65 w0 W g s := by
 obtain ⟨gr, tr, de, ai, lo, h⟩ := h
 exact ⟨gr, tr, de, ai, lo, h.blk, Nat.le_trans hl h.ge, IsS85.rebase h.gr hl, IsS88.rebase h.tr hl, IsS91.rebase h.de hl, IsS76.rebase h.ai hl, IsS78.rebase h.lo hl⟩
theorem G65.lossy {w0 W W1 : World} {g gr tr de ai lo : Nat} {s : GccS} {x0 x1 x2 : Int} {x3 : Bool} {x4 : Int} (h : G65 w0 W g gr tr de ai lo s) (hk : KeepBut W W1 lo none) (hl : IsS78 w0 W1 lo x0 x1 x2 x3 x4) : G65 w0 W1 g gr tr de ai lo { s with l0 := x0, l1 := x1, l2 := x2, l3 := x3, l4 := x4 } :=
 ⟨kb_at hk h.blk (bkt h.blk h.lo.1 (by decide)), h.ge, IsS85.keep h.gr hk h.lo.1 (by decide) (by decide), IsS88.keep h.tr hk h.lo.1 (by decide) (by decide), ⟨kb_at hk h.de.1 (bkt h.de.1 h.lo.1 (by decide)), h.de.2⟩, ⟨kb_at hk h.ai.1 (bkt h.ai.1 h.lo.1 (by decide)), h.ai.2⟩, hl⟩
theorem G65.aimd {w0 W W1 : World} {g gr tr de ai lo : Nat} {s : GccS} {x0 x1 x2 x3 : Int} {x4 : Bool} {x5 x6 : Int} {x7 : Bool} {x8 : Int} (h : G65 w0 W g gr tr de ai lo s) (hk : KeepBut W W1 ai none) (hl : IsS76 w0 W1 ai x0 x1 x2 x3 x4 x5 x6 x7 x8) : G65 w0 W1 g gr tr de ai lo { s with a0 := x0, a1 := x1, a2 := x2, a3 := x3, a4 := x4, a5 := x5, a6 := x6, a7 := x7, a8 := x8 } :=
 ⟨kb_at hk h.blk (bkt h.blk h.ai.1 (by decide)), h.ge, IsS85.keep h.gr hk h.ai.1 (by decide) (by decide), IsS88.keep h.tr hk h.ai.1 (by decide) (by decide), ⟨kb_at hk h.de.1 (bkt h.de.1 h.ai.1 (by decide)), h.de.2⟩, hl, ⟨kb_at hk h.lo.1 (bkt h.lo.1 h.ai.1 (by decide)), h.lo.2⟩⟩
theorem G65.det {w0 W W1 : World} {g gr tr de ai lo : Nat} {s : GccS} {x0 x1 x2 x3 x4 x5 : Int} (h : G65 w0 W g gr tr de ai lo s) (hk : KeepBut W W1 de none) (hl : IsS91 w0 W1 de x0 x1 x2 x3 x4 x5) : G65 w0 W1 g gr tr de ai lo { s with d0 := x0, d1 := x1, d2 := x2, d3 := x3, d4 := x4, d5 := x5 } :=
 ⟨kb_at hk h.blk (bkt h.blk h.de.1 (by decide)), h.ge, IsS85.keep h.gr hk h.de.1 (by decide) (by decide), IsS88.keep h.tr hk h.de.1 (by decide) (by decide), hl, ⟨kb_at hk h.ai.1 (bkt h.ai.1 h.de.1 (by decide)), h.ai.2⟩, ⟨kb_at hk h.lo.1 (bkt h.lo.1 h.de.1 (by decide)), h.lo.2⟩⟩
theorem G65.grp {w0 W W1 : World} {g gr tr de ai lo : Nat} {s : GccS} {s' : GrS} (h : G65 w0 W g gr tr de ai lo s) (hk : KeepBut W W1 gr none) (hl : IsS85 w0 W1 gr s') : G65 w0 W1 g gr tr de ai lo { s with g := s' } := by
 obtain ⟨cs, hb⟩ := h.gr.blk
 exact ⟨kb_at hk h.blk (bkt h.blk hb (by decide)), h.ge, hl, IsS88.keep h.tr hk hb (by decide) (by decide), ⟨kb_at hk h.de.1 (bkt h.de.1 hb (by decide)), h.de.2⟩, ⟨kb_at hk h.ai.1 (bkt h.ai.1 hb (by decide)), h.ai.2⟩, ⟨kb_at hk h.lo.1 (bkt h.lo.1 hb (by decide)), h.lo.2⟩⟩
theorem G65.trd {w0 W W1 : World} {g gr tr de ai lo : Nat} {s : GccS} {f0 f1 f2 f3 f4 : Int} {f5 f6 : List Int} {f7 : Int} (h : G65 w0 W g gr tr de ai lo s) (hk : Kept W W1 (PT W)) (hl : IsS88 w0 W1 tr f0 f1 f2 f3 f4 f5 f6 f7) : G65 w0 W1 g gr tr de ai lo { s with t := ⟨f0, f1, f2, f3, f4, f5, f6, f7⟩ } :=
 ⟨pt_other hk h.blk (by decide) (by decide), h.ge, IsS85.same h.gr (fun i cs t hi ht => pt_other hk hi (by rcases ht with rfl | rfl <;> decide) (by rcases ht with rfl | rfl <;> decide)), hl,
  ⟨pt_other hk h.de.1 (by decide) (by decide), h.de.2⟩, ⟨pt_other hk h.ai.1 (by decide) (by decide), h.ai.2⟩, ⟨pt_other hk h.lo.1 (by decide) (by decide), h.lo.2⟩⟩
theorem G65.setb {w0 W : World} {g gr tr de ai lo : Nat} {s : GccS} {b i : Nat} {cs : Array Value} {t : TypeId} {u : Value} (h : G65 w0 W g gr tr de ai lo s) (hb : W.heap[b]? = some (.cells cs t (0, 0))) (ht : t = 41 ∨ t = 67) : G65 w0 (W.setCell ⟨b, i, none⟩ u) g gr tr de ai lo s := by
 rcases ht with rfl | rfl
 ·exact ⟨far_t h.blk hb (by decide), h.ge, IsS85.setr h.gr hb (by decide) (by decide), IsS88.setr h.tr hb (by decide) (by decide), ⟨far_t h.de.1 hb (by decide), h.de.2⟩, ⟨far_t h.ai.1 hb (by decide), h.ai.2⟩, ⟨far_t h.lo.1 hb (by decide), h.lo.2⟩⟩
 ·exact ⟨far_t h.blk hb (by decide), h.ge, IsS85.setr h.gr hb (by decide) (by decide), IsS88.setr h.tr hb (by decide) (by decide), ⟨far_t h.de.1 hb (by decide), h.de.2⟩, ⟨far_t h.ai.1 hb (by decide), h.ai.2⟩, ⟨far_t h.lo.1 hb (by decide), h.lo.2⟩⟩
theorem G65.rt {w0 W : World} {g gr tr de ai lo : Nat} {s : GccS} (h : G65 w0 W g gr tr de ai lo s) (v : Int) : G65 w0 (W.setCell ⟨g, 5, none⟩ (.int .i64 v)) g gr tr de ai lo { s with rtt := v } :=
 ⟨blk_put h.blk 5 _ rfl, h.ge, IsS85.setr h.gr h.blk (by decide) (by decide), IsS88.setr h.tr h.blk (by decide) (by decide), ⟨far_t h.de.1 h.blk (by decide), h.de.2⟩, ⟨far_t h.ai.1 h.blk (by decide), h.ai.2⟩, ⟨far_t h.lo.1 h.blk (by decide), h.lo.2⟩⟩
def okT (t : TypeId) : Prop := t ≠ 65 ∧ t ≠ 85 ∧ t ≠ 82 ∧ t ≠ 88 ∧ t ≠ 2 ∧ t ≠ 91 ∧ t ≠ 76 ∧ t ≠ 78
def Saf (w0 w : World) (k : Nat) : Prop := k < w0.heap.size ∨ ∃ cs t, w.heap[k]? = some (.cells cs t (0, 0)) ∧ okT t
def KS (w0 w W : World) : Prop := w.heap.size ≤ W.heap.size ∧ ∀ k, Saf w0 w k → W.heap[k]? = w.heap[k]?
theorem KS.refl (w0 w : World) : KS w0 w w := ⟨Nat.le_refl _, fun _ _ => rfl⟩
theorem KS.step {w0 w W W1 : World} (h : KS w0 w W) (hb : Below w0.heap.size w0 W) (hb1 : Below w0.heap.size w0 W1) (hl : W.heap.size ≤ W1.heap.size) (hk : ∀ (k : Nat) (cs : Array Value) (t : TypeId), okT t → W.heap[k]? = some (.cells cs t (0, 0)) → W1.heap[k]? = some (.cells cs t (0, 0))) : KS w0 w W1 := by
 refine ⟨Nat.le_trans h.1 hl, fun k hs => ?_⟩
 rcases hs with hs | ⟨cs, t, hs, ht⟩
 ·exact (hb1.block k hs).trans ((hb.block k hs).symm.trans (h.2 k (.inl hs)))
 ·have e := h.2 k (.inr ⟨cs, t, hs, ht⟩)
  rw [hs] at e ⊢
  exact hk k cs t ht e
theorem KS.keep {w0 w W W1 : World} {b : Nat} {cs : Array Value} {t : TypeId} (h : KS w0 w W) (hb : Below w0.heap.size w0 W) (hb1 : Below w0.heap.size w0 W1) (hk : KeepBut W W1 b none) (ht : W.heap[b]? = some (.cells cs t (0, 0))) (hne : ¬ okT t) : KS w0 w W1 :=
 h.step hb hb1 hk.1 (fun k cs' t' ho hc => kb_at hk hc (bkt hc ht (fun e => hne (e ▸ ho))))
theorem KS.blk {w0 w W : World} {g' : Nat} {o : Obj} (hk : KS w0 w W) (h : w.heap[g']? = some o) (ho : ∃ cs t, o = .cells cs t (0, 0) ∧ okT t) : W.heap[g']? = some o := by
 obtain ⟨cs, t, rfl, ht⟩ := ho
 exact (hk.2 g' (.inr ⟨cs, t, h, ht⟩)).trans h
def TY (t : TypeId) (W : World) (b : Nat) : Prop := ∃ cs, W.heap[b]? = some (.cells cs t (0, 0))
theorem TY.mk {t : TypeId} {W : World} {b : Nat} {cs : Array Value} (h : W.heap[b]? = some (.cells cs t (0, 0))) : TY t W b := ⟨cs, h⟩
theorem TY.below {t : TypeId} {W W1 : World} {b : Nat} (h : TY t W b) (hb : Below W.heap.size W W1) : TY t W1 b := by
 obtain ⟨cs, h⟩ := h
 exact ⟨cs, blk_below h hb⟩
theorem TY.alloc {t : TypeId} {W : World} {b : Nat} (h : TY t W b) (o : Obj) : TY t (W.alloc o) b := h.below (below_alloc bR o)
theorem TY.drewN {t : TypeId} {W : World} {b : Nat} (h : TY t W b) (m : Nat) : TY t (W.drewN m) b := h.below (pw_below_drewN bR m)
theorem TY.drew {t : TypeId} {W : World} {b : Nat} (h : TY t W b) : TY t W.drew b := h.below (below_drew bR)
theorem TY.set {t : TypeId} {W : World} {b g i : Nat} {u : Value} (h : TY t W b) : TY t (W.setCell ⟨g, i, none⟩ u) b := by
 obtain ⟨cs, h⟩ := h
 by_cases e : b = g
 ·subst e; exact ⟨_, blk_set h i u⟩
 ·exact ⟨cs, blk_far h (p := ⟨g, i, none⟩) e u⟩
theorem G65.farT {w0 W : World} {g gr tr de ai lo : Nat} {s : GccS} {b i : Nat} {t : TypeId} (h : G65 w0 W g gr tr de ai lo s) (hb : TY t W b) (ht : okT t) (u : Value) : G65 w0 (W.setCell ⟨b, i, none⟩ u) g gr tr de ai lo s := by
 obtain ⟨cs, hb⟩ := hb
 obtain ⟨t1, t2, t3, t4, t5, t6, t7, t8⟩ := ht
 exact ⟨far_t h.blk hb (Ne.symm t1), h.ge, IsS85.setr h.gr hb t2 t3, IsS88.setr h.tr hb t4 t5, ⟨far_t h.de.1 hb (Ne.symm t6), h.de.2⟩, ⟨far_t h.ai.1 hb (Ne.symm t7), h.ai.2⟩, ⟨far_t h.lo.1 hb (Ne.symm t8), h.lo.2⟩⟩
theorem okT41 : okT 41 := by unfold okT; decide
theorem okT23 : okT 23 := by unfold okT; decide
theorem IsS65.farT {w0 W : World} {g : Nat} {s : GccS} {b i : Nat} {t : TypeId} (h : IsS65 w0 W g s) (hb : TY t W b) (ht : okT t) (u : Value) : IsS65 w0 (W.setCell ⟨b, i, none⟩ u) g s := by
 obtain ⟨gr, tr, de, ai, lo, h⟩ := h
 exact ⟨gr, tr, de, ai, lo, h.farT hb ht u⟩
theorem IsS65.far41 {w0 W : World} {g : Nat} {s : GccS} {b i : Nat} (h : IsS65 w0 W g s) (hb : TY 41 W b) (u : Value) : IsS65 w0 (W.setCell ⟨b, i, none⟩ u) g s := h.farT hb okT41 u
theorem IsS65.far23 {w0 W : World} {g : Nat} {s : GccS} {b i : Nat} (h : IsS65 w0 W g s) (hb : TY 23 W b) (u : Value) : IsS65 w0 (W.setCell ⟨b, i, none⟩ u) g s := h.farT hb okT23 u
def R41 (w0 w : World) (A : Option Addr) (l : List S41) : Prop := Kd.C k41 w A l.length l ∧ ∀ a, A = some a → 0 < l.length → Saf w0 w a.block
theorem C_ks {w0 w W : World} {A : Option Addr} {l : List S41} (h : R41 w0 w A l) (hk : KS w0 w W) : Kd.C k41 W A l.length l :=
 Kd.C_foot_neS (S := fun k => ¬ Saf w0 w k) (fun h => by rw [k41_open h]; exact k41_mk _ _) h.1 (fun ad e hn hc => hc (h.2 ad e hn)) W ⟨hk.1, fun i _ hi => hk.2 i (Classical.byContradiction hi)⟩
theorem R41.nil {w0 w : World} : R41 w0 w none ([] : List S41) := ⟨Kd.C_nil k41 w, fun a e => by cases e⟩
theorem R41.own {w0 w : World} {base : Nat} {ok : Nat → Prop} {A : Option Addr} {n c : Nat} {l : List S41} (h : Kd.R k41 41 w base ok (.slice A n c) l) : R41 w0 w A l := by
 obtain ⟨A', c', e, hl, hc⟩ := Kd.R_reads h
 injection e with e1 e2 e3
 subst e1
 refine ⟨hc, fun a ha _ => .inr ?_⟩
 obtain ⟨cs, ht⟩ := Kd.R_typed h a.block (by rw [ha]; simp [Value.ownBlock])
 exact ⟨cs, 41, ht, okT41⟩
theorem R41.keep {w0 w W : World} {base : Nat} {ok : Nat → Prop} {v : Value} {l : List S41} (hk : KS w0 w W) (h : Kd.R k41 41 w base ok v l) : Kd.R k41 41 W base ok v l :=
 Kd.R_mono (Kd.R_move (Kd.R_bound h) (fun k hh => by
  obtain ⟨_, _, _, q, hq, cells, hc⟩ := hh
  rcases List.mem_cons.1 hq with rfl | hq
  ·exact hk.2 k (.inr ⟨cells, _, hc, okT41⟩)
  ·exact nomatch hq)) (fun _ hk => hk.1)
structure HZ (w0 w W : World) (g gr tr de ai lo : Nat) (s : GccS) : Prop where
 st : G65 w0 W g gr tr de ai lo s
 bel : Below w0.heap.size w0 W
 ks : KS w0 w W
 wl : w0.heap.size ≤ w.heap.size
section
variable {w0 w W W1 : World} {g gr tr de ai lo : Nat} {s : GccS}
theorem HZ.of (h : G65 w0 w g gr tr de ai lo s) (hB : Below w0.heap.size w0 w) : HZ w0 w w g gr tr de ai lo s := ⟨h, hB, KS.refl w0 w, hB.size⟩
theorem HZ.below (h : HZ w0 w W g gr tr de ai lo s) (hb : Below W.heap.size W W1) : HZ w0 w W1 g gr tr de ai lo s := ⟨h.st.below hb, below_step h.bel hb, h.ks.step h.bel (below_step h.bel hb) hb.size (fun k cs t _ hk => blk_below hk hb), h.wl⟩
theorem HZ.grp {s' : GrS} (h : HZ w0 w W g gr tr de ai lo s) (hl : IsS85 w0 W1 gr s') (hb1 : Below w0.heap.size w0 W1) (hk : KeepBut W W1 gr none) : HZ w0 w W1 g gr tr de ai lo { s with g := s' } := by
 obtain ⟨cs, hb⟩ := h.st.gr.blk
 exact ⟨h.st.grp hk hl, hb1, h.ks.keep h.bel hb1 hk hb (by unfold okT; decide), h.wl⟩
theorem HZ.grp_at {i : Nat} {cs : Array Value} {t : TypeId} (h : HZ w0 w W g gr tr de ai lo s) (hk : KeepBut W W1 gr none) (hi : W.heap[i]? = some (.cells cs t (0, 0))) (ht : t ≠ 85) : W1.heap[i]? = some (.cells cs t (0, 0)) := by
 obtain ⟨_, hb⟩ := h.st.gr.blk
 exact kb_at hk hi (bkt hi hb ht)
theorem HZ.trd {f0 f1 f2 f3 f4 : Int} {f5 f6 : List Int} {f7 : Int} (h : HZ w0 w W g gr tr de ai lo s) (hl : IsS88P (PT W) w0 W1 tr f0 f1 f2 f3 f4 f5 f6 f7) (hb1 : Below w0.heap.size w0 W1) (hk : Kept W W1 (PT W)) : HZ w0 w W1 g gr tr de ai lo { s with t := ⟨f0, f1, f2, f3, f4, f5, f6, f7⟩ } :=
 ⟨h.st.trd hk (IsS88P.mono hl (fun _ _ => trivial)), hb1, h.ks.step h.bel hb1 hk.1 (fun k cs t ho hc => pt_other hk hc ho.2.2.2.1 ho.2.2.2.2.1), h.wl⟩
theorem HZ.det {x0 x1 x2 x3 x4 x5 : Int} (h : HZ w0 w W g gr tr de ai lo s) (hl : IsS91 w0 W1 de x0 x1 x2 x3 x4 x5) (hb1 : Below w0.heap.size w0 W1) (hk : KeepBut W W1 de none) : HZ w0 w W1 g gr tr de ai lo { s with d0 := x0, d1 := x1, d2 := x2, d3 := x3, d4 := x4, d5 := x5 } :=
 ⟨h.st.det hk hl, hb1, h.ks.keep h.bel hb1 hk h.st.de.1 (by unfold okT; decide), h.wl⟩
theorem HZ.aimd {x0 x1 x2 x3 : Int} {x4 : Bool} {x5 x6 : Int} {x7 : Bool} {x8 : Int} (h : HZ w0 w W g gr tr de ai lo s) (hl : IsS76 w0 W1 ai x0 x1 x2 x3 x4 x5 x6 x7 x8) (hb1 : Below w0.heap.size w0 W1) (hk : KeepBut W W1 ai none) : HZ w0 w W1 g gr tr de ai lo { s with a0 := x0, a1 := x1, a2 := x2, a3 := x3, a4 := x4, a5 := x5, a6 := x6, a7 := x7, a8 := x8 } :=
 ⟨h.st.aimd hk hl, hb1, h.ks.keep h.bel hb1 hk h.st.ai.1 (by unfold okT; decide), h.wl⟩
theorem HZ.lossy {x0 x1 x2 : Int} {x3 : Bool} {x4 : Int} (h : HZ w0 w W g gr tr de ai lo s) (hl : IsS78 w0 W1 lo x0 x1 x2 x3 x4) (hb1 : Below w0.heap.size w0 W1) (hk : KeepBut W W1 lo none) : HZ w0 w W1 g gr tr de ai lo { s with l0 := x0, l1 := x1, l2 := x2, l3 := x3, l4 := x4 } :=
 ⟨h.st.lossy hk hl, hb1, h.ks.keep h.bel hb1 hk h.st.lo.1 (by unfold okT; decide), h.wl⟩
theorem HZ.setb {b i : Nat} {cs : Array Value} {t : TypeId} {u : Value} (h : HZ w0 w W g gr tr de ai lo s) (hb : W.heap[b]? = some (.cells cs t (0, 0))) (ht : t = 41 ∨ t = 67) (hn : w.heap.size ≤ b) : HZ w0 w (W.setCell ⟨b, i, none⟩ u) g gr tr de ai lo s := by
 refine ⟨h.st.setb hb ht, below_set h.bel (Nat.le_trans h.wl hn), ⟨by have := h.ks.1; simpa [World.setCell] using this, fun k hs => ?_⟩, h.wl⟩
 refine (Below.heap_setCell W ⟨b, i, none⟩ u k ?_).trans (h.ks.2 k hs)
 rintro rfl
 have hn : w.heap.size ≤ k := hn
 rcases hs with hs | ⟨cs', t', hs, _⟩
 ·have := h.wl; omega
 ·have := blk_lt hs; omega
theorem HZ.rt (h : HZ w0 w W g gr tr de ai lo s) (v : Int) : HZ w0 w (W.setCell ⟨g, 5, none⟩ (.int .i64 v)) g gr tr de ai lo { s with rtt := v } :=
 ⟨h.st.rt v, below_set h.bel h.st.ge, h.ks.step h.bel (below_set h.bel h.st.ge) (by simp [World.setCell]) (fun k cs t ho hc => far_t hc h.st.blk ho.1), h.wl⟩
end
def gcc_New.made.f (a0 : Int) (a1 : Int) (a2 : Int) : Option (GccS × Int) := (aimd_New.made.f a0 a1 a2).bind fun (t1, t2, t3, t4, t5, t6, t7, t8, t9, t10) => (lossy_New.made.f a0 a1 a2).bind fun (u1, u2, u3, u4, u5, u6) => (detect_New.f).bind fun (v1, v2, v3, v4, v5, v6) => if t10 = 0 then some (⟨⟨0, 0, 0, 0, false, none, 5000⟩, ⟨20, 3865470566, 0, 0, 0, [], [], 0⟩, t1, t2, t3, t4, t5, t6, t7, t8, t9, u1, u2, u3, u4, u5, v1, v2, v3, v4, v5, v6, 100000⟩, 0) else none
theorem tmade : trend_New.made.f 20 3865470566 = some (20, 3865470566, 0, 0, 0, [], [], 0, 0) := by rfl
set_option maxHeartbeats 8000000 in
set_option maxRecDepth 100000 in
theorem gcc_New.made.calls (a0 : Int) (a1 : Int) (a2 : Int) (r1 : GccS) (r2 : Int) (w0 w : World) (hB : Below w0.heap.size w0 w) (h : gcc_New.made.f a0 a1 a2 = some (r1, r2)) :
  Calls Tryd.prog 7 #[.int .i64 a0, .int .i64 a1, .int .i64 a2] w fun e w' => ∃ g_ : Nat, e = .returned (.tuple #[.pointer (some ⟨g_, 0, none⟩), .int .i64 r2]) ∧ IsS65 w0 w' g_ r1 ∧ Below w0.heap.size w0 w' ∧ Below w.heap.size w w' := by
 have hu65 := Tryd.underlying65
 have hu63 := Tryd.underlying63
 have HC := aW (Below.refl w.heap.size w)
 have HB := aW hB
 clear hB
 simp only [gcc_New.made.f] at h
 obtain ⟨⟨t1, t2, t3, t4, t5, t6, t7, t8, t9, t10⟩, A1_, h⟩ := Option.bind_eq_some_iff.mp h
 obtain ⟨⟨u1, u2, u3, u4, u5, u6⟩, A2_, h⟩ := Option.bind_eq_some_iff.mp h
 obtain ⟨⟨v1, v2, v3, v4, v5, v6⟩, A3_, h⟩ := Option.bind_eq_some_iff.mp h
 have A1 := aW A1_
 have A2 := aW A2_
 have A3 := aW A3_
 clear A1_ A2_ A3_
 by_cases c : t10 = 0
 rotate_left
 ·simp [if_neg c] at h
 simp only [if_pos c, Option.some.injEq, Prod.mk.injEq] at h
 obtain ⟨rfl, rfl⟩ := h
 have c0 : (t10 != 0) = false := bne_eq_false_iff_eq.mpr c
 clear c
 go_enter Tryd.func7, Tryd.ntmps7
 go_wp2_with (first | ((with_reducible refine gate_callee (f := 14) rfl ?_); refine gL_ 20 Tryd.func14 #[.int .i64 a0, .int .i64 a1, .int .i64 a2] ?_; (with_reducible refine (aimd_New.made.calls a0 a1 a2 t1 t2 t3 t4 t5 t6 t7 t8 t9 t10 _ _ bR A1.out).mono ?_); rintro e w7 ⟨ai, rfl, hi, hb, hb2⟩; refine ⟨_, rfl, ?_⟩; have HA := aW (IsS76.rebase hi (below_size o76)); replace HC := aW (below_step o75 hb2); replace HB := aW (below_step o76 hb2)) | ((with_reducible refine gate_callee (f := 15) rfl ?_); refine gL_ 30 Tryd.func15 #[.int .i64 a0, .int .i64 a1, .int .i64 a2] ?_; (with_reducible refine (lossy_New.made.calls a0 a1 a2 u1 u2 u3 u4 u5 u6 _ _ bR A2.out).mono ?_); rintro e w8 ⟨lo, rfl, hi, hb, hb2⟩; refine ⟨_, rfl, ?_⟩; have HL := aW (IsS78.rebase hi (below_size o76)); replace HA := aW (IsS76.below (show IsS76 w0 _ _ t1 t2 t3 t4 t5 t6 t7 t8 t9 from o97) hb2); replace HC := aW (below_step o75 hb2); replace HB := aW (below_step o76 hb2)) | ((with_reducible refine gate_callee (f := 16) rfl ?_); refine gL_ 34 Tryd.func16 #[.int .i64 5000] ?_; (with_reducible refine (group_New.calls5 _ _ bR).mono ?_); rintro e w9 ⟨gr, rfl, hi, hb, hb2⟩; refine ⟨_, rfl, ?_⟩; have HR := aW (IsS85.rebase hi (below_size o76)); replace HL := aW (IsS78.below (show IsS78 w0 _ _ u1 u2 u3 u4 u5 from o96) hb2); replace HA := aW (IsS76.below (show IsS76 w0 _ _ t1 t2 t3 t4 t5 t6 t7 t8 t9 from o97) hb2); replace HC := aW (below_step o75 hb2); replace HB := aW (below_step o76 hb2)) | ((with_reducible refine gate_callee (f := 17) rfl ?_); refine gL_ 38 Tryd.func17 #[.int .i64 20, .int .i64 3865470566] ?_; (with_reducible refine (trend_New.made.calls 20 3865470566 20 3865470566 0 0 0 [] [] 0 0 _ _ bR tmade).mono ?_); rintro e w10 ⟨tr, rfl, hi, hb, hb2⟩; refine ⟨_, rfl, ?_⟩; have HT := aW (IsS88.rebase hi (below_size o76)); replace HR := aW (IsS85.below (show IsS85 w0 _ _ ⟨0, 0, 0, 0, false, none, 5000⟩ from (by repeat (first | exact HR.out | apply IsS85.alloc | apply IsS85.drewN | apply IsS85.drew))) hb2); replace HL := aW (IsS78.below (show IsS78 w0 _ _ u1 u2 u3 u4 u5 from o96) hb2); replace HA := aW (IsS76.below (show IsS76 w0 _ _ t1 t2 t3 t4 t5 t6 t7 t8 t9 from o97) hb2); replace HC := aW (below_step o75 hb2); replace HB := aW (below_step o76 hb2)) | ((with_reducible refine gate_callee (f := 18) rfl ?_); refine gL_ 43 Tryd.func18 #[] ?_; (with_reducible refine (detect_New.calls v1 v2 v3 v4 v5 v6 _ _ bR A3.out).mono ?_); rintro e w11 ⟨de, rfl, hi, hb, hb2⟩; refine ⟨_, rfl, ?_⟩; have HD := aW (IsS91.rebase hi (below_size o76)); replace HT := aW (IsS88.below (show IsS88 w0 _ _ 20 3865470566 0 0 0 [] [] 0 from (by repeat (first | exact HT.out | apply IsS88.alloc | apply IsS88.drewN | apply IsS88.drew))) hb2); replace HR := aW (IsS85.below (show IsS85 w0 _ _ ⟨0, 0, 0, 0, false, none, 5000⟩ from (by repeat (first | exact HR.out | apply IsS85.alloc | apply IsS85.drewN | apply IsS85.drew))) hb2); replace HL := aW (IsS78.below (show IsS78 w0 _ _ u1 u2 u3 u4 u5 from o96) hb2); replace HA := aW (IsS76.below (show IsS76 w0 _ _ t1 t2 t3 t4 t5 t6 t7 t8 t9 from o97) hb2); replace HC := aW (below_step o75 hb2); replace HB := aW (below_step o76 hb2)) | ((with_reducible refine gate_dst (N := 48) rfl ?_); refine box_event ?hg (N := 48) ?hd (cs := #[.pointer (some ⟨gr, 0, none⟩), .pointer (some ⟨tr, 0, none⟩), .pointer (some ⟨de, 0, none⟩), .pointer (some ⟨ai, 0, none⟩), .pointer (some ⟨lo, 0, none⟩), .int .i64 100000]) (t := 65) ?hr ?_; (case hd => rfl); (case hg => rfl); (case hr => first | (go_simp; done) | (go_simp; rfl)); intro gb hg w12 hbox hb2; have n0_ := aW (below_step o76 hb2); have n1_ := aW (below_step o75 hb2); have n2_ := aW (IsS76.below (show IsS76 w0 _ _ t1 t2 t3 t4 t5 t6 t7 t8 t9 from o97) hb2); have n3_ := aW (IsS78.below (show IsS78 w0 _ _ u1 u2 u3 u4 u5 from o96) hb2); have n4_ := aW (IsS91.below (show IsS91 w0 _ _ v1 v2 v3 v4 v5 v6 from (by repeat (first | exact HD.out | apply IsS91.alloc | apply IsS91.drewN | apply IsS91.drew))) hb2); have n5_ := aW (IsS85.below (show IsS85 w0 _ _ ⟨0, 0, 0, 0, false, none, 5000⟩ from (by repeat (first | exact HR.out | apply IsS85.alloc | apply IsS85.drewN | apply IsS85.drew))) hb2); have n6_ := aW (IsS88.below (show IsS88 w0 _ _ 20 3865470566 0 0 0 [] [] 0 from (by repeat (first | exact HT.out | apply IsS88.alloc | apply IsS88.drewN | apply IsS88.drew))) hb2); have m0_ := aW (hbox); have m1_ := aW ((by rw [hg]; exact (below_size o76) : w0.heap.size ≤ gb)); clear HB HC HA HL HD HR HT; have HB := n0_; have HC := n1_; have HA := n2_; have HL := n3_; have HD := n4_; have HR := n5_; have HT := n6_; have HG := m0_; have HGE := m1_; clear n0_ n1_ n2_ n3_ n4_ n5_ n6_ m0_ m1_ hbox hg))
 go_ret2
 exact ⟨_, rfl, IsS65.below ⟨gr, tr, de, ai, lo, ⟨HG.out, HGE.out, HR.out, HT.out, HD.out, HA.out, HL.out⟩⟩ (o93), o77, by repeat (first | (with_reducible first | exact HC.out | apply below_alloc | apply pw_below_drewN | apply below_drew1) | exact HC.out)⟩
def gcc_New.nil.f (a0 : Int) (a1 : Int) (a2 : Int) : Option Int := (aimd_New.nil.f a0 a1 a2).bind fun t => if t = 0 then none else some t
set_option maxHeartbeats 8000000 in
set_option maxRecDepth 100000 in
theorem gcc_New.nil.calls (a0 : Int) (a1 : Int) (a2 : Int) (r : Int) (w : World) (h : gcc_New.nil.f a0 a1 a2 = some r) :
  Calls Tryd.prog 7 #[.int .i64 a0, .int .i64 a1, .int .i64 a2] w fun e w' => e = .returned (.tuple #[.pointer none, .int .i64 r]) ∧ Below w.heap.size w w' := by
 have HB := aW (Below.refl w.heap.size w)
 simp only [gcc_New.nil.f] at h
 obtain ⟨t, A1_, h⟩ := Option.bind_eq_some_iff.mp h
 have A1 := aW A1_
 clear A1_
 by_cases c : t = 0
 ·simp [if_pos c] at h
 simp only [if_neg c, Option.some.injEq] at h
 subst h
 have c0 : (t != 0) = true := bne_iff_ne.mpr c
 clear c
 go_enter Tryd.func7, Tryd.ntmps7
 go_wp2_with (first | ((with_reducible refine gate_callee (f := 14) rfl ?_); refine gL_ 20 Tryd.func14 #[.int .i64 a0, .int .i64 a1, .int .i64 a2] ?_; (with_reducible refine (aimd_New.nil.calls a0 a1 a2 t _ A1.out).mono ?_); rintro e w7 ⟨rfl, hb2⟩; refine ⟨_, rfl, ?_⟩; replace HB := aW (below_step o76 hb2)))
 go_ret2
 exact ⟨rfl, o77⟩
def flywheelref19_Rates.f (a0 : Int) (a1 : Int) (a2 : Int) : Option (Bool) := if a1 ≥ 1 then (if a1 ≤ a0 then (if a0 ≤ a2 then (some (decide (a2 ≤ 17179869184))) else (some false)) else (some false)) else (some false)
set_option maxHeartbeats 8000000 in
set_option maxRecDepth 100000 in
theorem flywheelref19_Rates.calls (a0 : Int) (a1 : Int) (a2 : Int) (r : Bool) (w : World) (h : flywheelref19_Rates.f a0 a1 a2 = some r) :
  Calls Tryd.prog 8 #[.int .i64 a0, .int .i64 a1, .int .i64 a2] w fun e w' => e = .returned (.bool r) ∧ Drawn0 w w' := by
 have H : (if a1 ≥ 1 then (if a1 ≤ a0 then (if a0 ≤ a2 then (some (decide (a2 ≤ 17179869184))) else (some false)) else (some false)) else (some false)) = some r := h
 clear h
 by_cases c4 : a1 ≥ 1
 ·rw [if_pos c4] at H
  have c4b0 : decide (1 ≤ a1) = true := decide_eq_true c4
  clear c4
  by_cases c5 : a1 ≤ a0
  ·rw [if_pos c5] at H
   have c5b0 : decide (a1 ≤ a0) = true := decide_eq_true c5
   clear c5
   by_cases c6 : a0 ≤ a2
   ·rw [if_pos c6] at H
    have c6b0 : decide (a0 ≤ a2) = true := decide_eq_true c6
    clear c6
    obtain rfl := Option.some.inj H
    go_enter Tryd.func8, Tryd.ntmps8
    go_wp2
    go_ret
    exact ⟨o106, o101⟩
   ·rw [if_neg c6] at H
    have c6b0 : decide (a0 ≤ a2) = false := decide_eq_false c6
    clear c6
    obtain rfl := Option.some.inj H
    go_enter Tryd.func8, Tryd.ntmps8
    go_wp2
    go_ret
    exact ⟨o106, o101⟩
  ·rw [if_neg c5] at H
   have c5b0 : decide (a1 ≤ a0) = false := decide_eq_false c5
   clear c5
   obtain rfl := Option.some.inj H
   go_enter Tryd.func8, Tryd.ntmps8
   go_wp2
   go_ret
   exact ⟨o106, o101⟩
 ·rw [if_neg c4] at H
  have c4b0 : decide (1 ≤ a1) = false := decide_eq_false c4
  clear c4
  obtain rfl := Option.some.inj H
  go_enter Tryd.func8, Tryd.ntmps8
  go_wp2
  go_ret
  exact ⟨o106, o101⟩
def detect_Detector_Usage.f (s0_0 : Int) (s0_1 : Int) (s0_2 : Int) (s0_3 : Int) (s0_4 : Int) (s0_5 : Int) : Option (Int × Int × Int × Int × Int × Int × Int) := some (s0_0, s0_0, s0_1, s0_2, s0_3, s0_4, s0_5)
set_option maxHeartbeats 8000000 in
set_option maxRecDepth 100000 in
theorem detect_Detector_Usage.calls (g : Nat) (s0_0 : Int) (s0_1 : Int) (s0_2 : Int) (s0_3 : Int) (s0_4 : Int) (s0_5 : Int) (r1 : Int) (r2 : Int) (r3 : Int) (r4 : Int) (r5 : Int) (r6 : Int) (r7 : Int) (w0 w : World) (hI : IsS91 w0 w g s0_0 s0_1 s0_2 s0_3 s0_4 s0_5) (hB : Below w0.heap.size w0 w) (h : detect_Detector_Usage.f s0_0 s0_1 s0_2 s0_3 s0_4 s0_5 = some (r1, r2, r3, r4, r5, r6, r7)) :
  Calls Tryd.prog 27 #[.pointer (some ⟨g, 0, none⟩)] w fun e w' => e = .returned (.int .i64 r1) ∧ IsS91 w0 w' g r2 r3 r4 r5 r6 r7 ∧ Below w0.heap.size w0 w' ∧ KeepBut w w' g none := by
 have hpn60_eql : ∀ (a_ : Addr) (W_ : World), (Go.binOp .eql 60 (.pointer (some a_)) (.pointer none)).run Tryd.prog W_ = .ok (.bool false) W_ := fun _ _ => by kernel_rfl
 have hnn60_eql : ∀ (W_ : World), (Go.binOp .eql 60 (.pointer none) (.pointer none)).run Tryd.prog W_ = .ok (.bool true) W_ := fun _ => by kernel_rfl
 have HI0 := aW hI
 have HK := aW (KeepBut.refl w g none)
 have HL := aW hB.size
 clear hI
 have HW0 := aW hB.size
 have HB := aW hB
 clear hB
 have H : (some (s0_0, s0_0, s0_1, s0_2, s0_3, s0_4, s0_5)) = some (r1, r2, r3, r4, r5, r6, r7) := h
 clear h
 simp only [Option.some.injEq, Prod.mk.injEq] at H
 obtain ⟨rfl, rfl, rfl, rfl, rfl, rfl, rfl⟩ := H
 obtain ⟨HGz2, hgz2⟩ := HI0.out
 obtain ⟨hcz2_0, hfz2_0, hcz2_1, hfz2_1, hcz2_2, hfz2_2, hcz2_3, hfz2_3, hcz2_4, hfz2_4, hcz2_5, hfz2_5⟩ := bp6 HGz2
 clear HGz2 hgz2
 go_enter Tryd.func27, Tryd.ntmps27
 go_wp2
 go_ret
 exact ⟨o95, o20, o51, o70⟩
theorem G65.uniq {w0 W : World} {g gr tr de ai lo gr' tr' de' ai' lo' : Nat} {s s' : GccS} (h : G65 w0 W g gr tr de ai lo s) (h' : G65 w0 W g gr' tr' de' ai' lo' s') : gr = gr' ∧ tr = tr' ∧ de = de' ∧ ai = ai' ∧ lo = lo' := by
 have e := h.blk.symm.trans h'.blk
 simp only [Option.some.injEq, Obj.cells.injEq, Array.mk.injEq, List.cons.injEq, Value.pointer.injEq, Addr.mk.injEq] at e
 obtain ⟨⟨⟨h1, _⟩, ⟨h2, _⟩, ⟨h3, _⟩, ⟨h4, _⟩, ⟨h5, _⟩, _⟩, _⟩ := e
 exact ⟨h1, h2, h3, h4, h5⟩
def gcc_Gcc_Usage.f (s0_0 : GccS) : Option (Int × GccS) := some (s0_0.d0, s0_0)
set_option maxHeartbeats 8000000 in
set_option maxRecDepth 100000 in
theorem gcc_Gcc_Usage.calls (g : Nat) (s0_0 : GccS) (r1 : Int) (r2 : GccS) (w0 w : World) (hI : IsS65 w0 w g s0_0) (hB : Below w0.heap.size w0 w) (h : gcc_Gcc_Usage.f s0_0 = some (r1, r2)) :
  Calls Tryd.prog 12 #[.pointer (some ⟨g, 0, none⟩)] w fun e w' => e = .returned (.int .i64 r1) ∧ IsS65 w0 w' g r2 ∧ Below w0.heap.size w0 w' ∧ KS w0 w w' ∧ ∀ gr tr de ai lo, G65 w0 w g gr tr de ai lo s0_0 → G65 w0 w' g gr tr de ai lo r2 := by
 have hu65 := Tryd.underlying65
 have hu63 := Tryd.underlying63
 have hpn25_eql : ∀ (a_ : Addr) (W_ : World), (Go.binOp .eql 25 (.pointer (some a_)) (.pointer none)).run Tryd.prog W_ = .ok (.bool false) W_ := fun _ _ => by kernel_rfl
 have hnn25_eql : ∀ (W_ : World), (Go.binOp .eql 25 (.pointer none) (.pointer none)).run Tryd.prog W_ = .ok (.bool true) W_ := fun _ => by kernel_rfl
 simp only [gcc_Gcc_Usage.f, Option.some.injEq, Prod.mk.injEq] at h
 obtain ⟨rfl, rfl⟩ := h
 obtain ⟨gr, tr, de, ai, lo, h0⟩ := hI
 have HX := aW (HZ.of h0 hB)
 have H0 := aW h0
 clear hB
 have hc2_ : w.cell? ⟨g, 2, none⟩ = some (.pointer (some ⟨de, 0, none⟩)) := (blk_cell h0.blk 2).trans rfl
 have hf2_ := blk_frozen h0.blk 2
 clear h0
 have hmn : (0 : Int) = 0 := rfl
 go_enter Tryd.func12, Tryd.ntmps12
 go_wp2_with (first | (go_at_call 27; (with_reducible refine (detect_Detector_Usage.calls de s0_0.d0 s0_0.d1 s0_0.d2 s0_0.d3 s0_0.d4 s0_0.d5 s0_0.d0 s0_0.d0 s0_0.d1 s0_0.d2 s0_0.d3 s0_0.d4 s0_0.d5 w0 _ ?side1 ?side2 rfl).mono ?_); (case side1 => exact (show HZ w0 w _ g gr tr de ai lo s0_0 from o64).st.de); (case side2 => exact (show HZ w0 w _ g gr tr de ai lo s0_0 from o64).bel); rintro e w9 ⟨rfl, hi, hb, hk⟩; have n0_ := aW (HZ.det (show HZ w0 w _ g gr tr de ai lo s0_0 from o64) hi hb hk); clear HX; have HX := n0_; clear n0_ hi hb hk))
 go_ret
 have hz_ := (show HZ w0 w _ g gr tr de ai lo s0_0 from o64)
 exact ⟨by first | rfl | (simp only [hmn]; done) | (simp [*]; done), ⟨gr, tr, de, ai, lo, hz_.st⟩, hz_.bel, hz_.ks, fun gr' tr' de' ai' lo' h' => by obtain ⟨rfl, rfl, rfl, rfl, rfl⟩ := G65.uniq H0.out h'; exact hz_.st⟩
def gcc_Gcc_Usage.nilrecv.f : Option Int := some 0
set_option maxHeartbeats 8000000 in
set_option maxRecDepth 100000 in
theorem gcc_Gcc_Usage.nilrecv.calls (r : Int) (w : World) (h : gcc_Gcc_Usage.nilrecv.f = some r) :
  Calls Tryd.prog 12 #[.pointer none] w fun e w' => e = .returned (.int .i64 r) ∧ Below w.heap.size w w' := by
 have hpn25_eql : ∀ (a_ : Addr) (W_ : World), (Go.binOp .eql 25 (.pointer (some a_)) (.pointer none)).run Tryd.prog W_ = .ok (.bool false) W_ := fun _ _ => by kernel_rfl
 have hnn25_eql : ∀ (W_ : World), (Go.binOp .eql 25 (.pointer none) (.pointer none)).run Tryd.prog W_ = .ok (.bool true) W_ := fun _ => by kernel_rfl
 have H : (some 0 : Option Int) = some r := h
 clear h
 obtain rfl := Option.some.inj H
 clear H
 go_enter Tryd.func12, Tryd.ntmps12
 go_wp2
 go_ret
 exact ⟨o106, o93⟩
def aimd_Aimd_Rate.f (s0_0 : Int) (s0_1 : Int) (s0_2 : Int) (s0_3 : Int) (s0_4 : Bool) (s0_5 : Int) (s0_6 : Int) (s0_7 : Bool) (s0_8 : Int) : Option (Int × Int × Int × Int × Int × Bool × Int × Int × Bool × Int) := some (s0_0, s0_0, s0_1, s0_2, s0_3, s0_4, s0_5, s0_6, s0_7, s0_8)
set_option maxHeartbeats 8000000 in
set_option maxRecDepth 100000 in
theorem aimd_Aimd_Rate.calls (g : Nat) (s0_0 : Int) (s0_1 : Int) (s0_2 : Int) (s0_3 : Int) (s0_4 : Bool) (s0_5 : Int) (s0_6 : Int) (s0_7 : Bool) (s0_8 : Int) (r1 : Int) (r2 : Int) (r3 : Int) (r4 : Int) (r5 : Int) (r6 : Bool) (r7 : Int) (r8 : Int) (r9 : Bool) (r10 : Int) (w0 w : World) (hI : IsS76 w0 w g s0_0 s0_1 s0_2 s0_3 s0_4 s0_5 s0_6 s0_7 s0_8) (hB : Below w0.heap.size w0 w) (h : aimd_Aimd_Rate.f s0_0 s0_1 s0_2 s0_3 s0_4 s0_5 s0_6 s0_7 s0_8 = some (r1, r2, r3, r4, r5, r6, r7, r8, r9, r10)) :
  Calls Tryd.prog 28 #[.pointer (some ⟨g, 0, none⟩)] w fun e w' => e = .returned (.int .i64 r1) ∧ IsS76 w0 w' g r2 r3 r4 r5 r6 r7 r8 r9 r10 ∧ Below w0.heap.size w0 w' ∧ KeepBut w w' g none := by
 have hpn48_eql : ∀ (a_ : Addr) (W_ : World), (Go.binOp .eql 48 (.pointer (some a_)) (.pointer none)).run Tryd.prog W_ = .ok (.bool false) W_ := fun _ _ => by kernel_rfl
 have hnn48_eql : ∀ (W_ : World), (Go.binOp .eql 48 (.pointer none) (.pointer none)).run Tryd.prog W_ = .ok (.bool true) W_ := fun _ => by kernel_rfl
 have HI0 := aW hI
 have HK := aW (KeepBut.refl w g none)
 have HL := aW hB.size
 clear hI
 have HW0 := aW hB.size
 have HB := aW hB
 clear hB
 have H : (some (s0_0, s0_0, s0_1, s0_2, s0_3, s0_4, s0_5, s0_6, s0_7, s0_8)) = some (r1, r2, r3, r4, r5, r6, r7, r8, r9, r10) := h
 clear h
 simp only [Option.some.injEq, Prod.mk.injEq] at H
 obtain ⟨rfl, rfl, rfl, rfl, rfl, rfl, rfl, rfl, rfl, rfl⟩ := H
 obtain ⟨HGz2, hgz2⟩ := HI0.out
 obtain ⟨hcz2_0, hfz2_0, hcz2_1, hfz2_1, hcz2_2, hfz2_2, hcz2_3, hfz2_3, hcz2_4, hfz2_4, hcz2_5, hfz2_5, hcz2_6, hfz2_6, hcz2_7, hfz2_7, hcz2_8, hfz2_8⟩ := bp9 HGz2
 clear HGz2 hgz2
 go_enter Tryd.func28, Tryd.ntmps28
 go_wp2
 go_ret
 exact ⟨o95, by repeat (first | (with_reducible first | exact HI0.out | apply IsS76.alloc | apply IsS76.drewN | apply IsS76.drew | apply IsS76.set_0 | apply IsS76.set_1 | apply IsS76.set_2 | apply IsS76.set_3 | apply IsS76.set_4 | apply IsS76.set_5 | apply IsS76.set_6 | apply IsS76.set_7 | apply IsS76.set_8) | exact HI0.out), by repeat (first | (with_reducible first | exact HB.out | apply below_alloc | apply pw_below_drewN | apply below_drew1 | refine below_set ?_ (IsS76.ge HI0.out)) | exact HB.out), o70⟩
def lossy_Lossy_Rate.f (s0_0 : Int) (s0_1 : Int) (s0_2 : Int) (s0_3 : Bool) (s0_4 : Int) : Option (Int × Int × Int × Int × Bool × Int) := some (s0_0, s0_0, s0_1, s0_2, s0_3, s0_4)
set_option maxHeartbeats 8000000 in
set_option maxRecDepth 100000 in
theorem lossy_Lossy_Rate.calls (g : Nat) (s0_0 : Int) (s0_1 : Int) (s0_2 : Int) (s0_3 : Bool) (s0_4 : Int) (r1 : Int) (r2 : Int) (r3 : Int) (r4 : Int) (r5 : Bool) (r6 : Int) (w0 w : World) (hI : IsS78 w0 w g s0_0 s0_1 s0_2 s0_3 s0_4) (hB : Below w0.heap.size w0 w) (h : lossy_Lossy_Rate.f s0_0 s0_1 s0_2 s0_3 s0_4 = some (r1, r2, r3, r4, r5, r6)) :
  Calls Tryd.prog 29 #[.pointer (some ⟨g, 0, none⟩)] w fun e w' => e = .returned (.int .i64 r1) ∧ IsS78 w0 w' g r2 r3 r4 r5 r6 ∧ Below w0.heap.size w0 w' ∧ KeepBut w w' g none := by
 have hpn51_eql : ∀ (a_ : Addr) (W_ : World), (Go.binOp .eql 51 (.pointer (some a_)) (.pointer none)).run Tryd.prog W_ = .ok (.bool false) W_ := fun _ _ => by kernel_rfl
 have hnn51_eql : ∀ (W_ : World), (Go.binOp .eql 51 (.pointer none) (.pointer none)).run Tryd.prog W_ = .ok (.bool true) W_ := fun _ => by kernel_rfl
 have HI0 := aW hI
 have HK := aW (KeepBut.refl w g none)
 have HL := aW hB.size
 clear hI
 have HW0 := aW hB.size
 have HB := aW hB
 clear hB
 have H : (some (s0_0, s0_0, s0_1, s0_2, s0_3, s0_4)) = some (r1, r2, r3, r4, r5, r6) := h
 clear h
 simp only [Option.some.injEq, Prod.mk.injEq] at H
 obtain ⟨rfl, rfl, rfl, rfl, rfl, rfl⟩ := H
 obtain ⟨HGz2, hgz2⟩ := HI0.out
 obtain ⟨hcz2_0, hfz2_0, hcz2_1, hfz2_1, hcz2_2, hfz2_2, hcz2_3, hfz2_3, hcz2_4, hfz2_4⟩ := bp5 HGz2
 clear HGz2 hgz2
 go_enter Tryd.func29, Tryd.ntmps29
 go_wp2
 go_ret
 exact ⟨o95, by repeat (first | (with_reducible first | exact HI0.out | apply IsS78.alloc | apply IsS78.drewN | apply IsS78.drew | apply IsS78.set_0 | apply IsS78.set_1 | apply IsS78.set_2 | apply IsS78.set_3 | apply IsS78.set_4) | exact HI0.out), by repeat (first | (with_reducible first | exact HB.out | apply below_alloc | apply pw_below_drewN | apply below_drew1 | refine below_set ?_ (IsS78.ge HI0.out)) | exact HB.out), o70⟩
def gcc_Gcc_Rate.f (s0_0 : GccS) : Option (Int × GccS) := some (mn s0_0.a0 s0_0.l0, s0_0)
def gcc_Gcc_Rate.T3 : Bool × List (List Nat × List Nat) := (true, [([], []), ([0], [0]), ([1], [1]), ([2], [2]), ([3], [3]), ([], []), ([5], [5]), ([6], [6]), ([7], [7]), ([8, 4], [8]), ([4, 9], [4, 9]), ([10, 9, 0, 1, 2, 3, 4, 5, 6, 7, 8, 9, 10], [10])])
def gcc_Gcc_Rate.B3 : List Nat := [0, 1, 3, 7, 15, 0, 32, 96, 224, 511, 1023, 2047]
theorem gcc_Gcc_Rate.tab3 : rtab .any (opsOf Tryd.f13 3) = gcc_Gcc_Rate.T3 := by kernel_rfl
theorem gcc_Gcc_Rate.bits3 : waitsOk gcc_Gcc_Rate.T3.2 gcc_Gcc_Rate.B3 = true := by kernel_rfl
set_option maxHeartbeats 8000000 in
set_option maxRecDepth 100000 in
theorem gcc_Gcc_Rate.calls (g : Nat) (s0_0 : GccS) (r1 : Int) (r2 : GccS) (w0 w : World) (hI : IsS65 w0 w g s0_0) (hB : Below w0.heap.size w0 w) (h : gcc_Gcc_Rate.f s0_0 = some (r1, r2)) :
  Calls Tryd.prog 13 #[.pointer (some ⟨g, 0, none⟩)] w fun e w' => e = .returned (.int .i64 r1) ∧ IsS65 w0 w' g r2 ∧ Below w0.heap.size w0 w' ∧ KS w0 w w' ∧ ∀ gr tr de ai lo, G65 w0 w g gr tr de ai lo s0_0 → G65 w0 w' g gr tr de ai lo r2 := by
 have hu65 := Tryd.underlying65
 have hu63 := Tryd.underlying63
 have hpn25_eql : ∀ (a_ : Addr) (W_ : World), (Go.binOp .eql 25 (.pointer (some a_)) (.pointer none)).run Tryd.prog W_ = .ok (.bool false) W_ := fun _ _ => by kernel_rfl
 have hnn25_eql : ∀ (W_ : World), (Go.binOp .eql 25 (.pointer none) (.pointer none)).run Tryd.prog W_ = .ok (.bool true) W_ := fun _ => by kernel_rfl
 simp only [gcc_Gcc_Rate.f, Option.some.injEq, Prod.mk.injEq] at h
 obtain ⟨rfl, rfl⟩ := h
 obtain ⟨gr, tr, de, ai, lo, h0⟩ := hI
 have HX := aW (HZ.of h0 hB)
 have H0 := aW h0
 clear hB
 clear h0
 have hmn : (if s0_0.l0 < s0_0.a0 then s0_0.l0 else s0_0.a0) = mn s0_0.a0 s0_0.l0 := rfl
 go_enter Tryd.func13, Tryd.ntmps13
 try go_wp2
 replace HX := aW (HZ.below HX.out (below_drew bR))
 refine start_ (n := 12) (S := fun w' => w'.cell? ⟨g, 3, none⟩ = some (.pointer (some ⟨ai, 0, none⟩)) ∧ w'.cell? ⟨g, 4, none⟩ = some (.pointer (some ⟨lo, 0, none⟩))) (ds := []) (bl 12 0) (by kernel_rfl) rfl rfl ⟨(blk_cell HX.out.st.blk 3).trans rfl, (blk_cell HX.out.st.blk 4).trans rfl⟩ (fun hHeld => ?_); refine with_tabW gcc_Gcc_Rate.tab3 gcc_Gcc_Rate.bits3 (fun HT_ HW_ => ?_)
 generalize World.drew w = w1 at HX hHeld ⊢
 refine pq_ 0 5 (bl 12 1) HT_ ?_
 refine pq_ 1 6 (bl 12 3) HT_ ?_
 refine pq_ 2 7 (bl 12 7) HT_ ?_
 refine tq_ 3 8 (bl 12 15) HT_ HW_ hHeld ?_ (hr := by rintro w' ⟨s0, s1⟩; go_simp; with_reducible rfl)
 refine pq_ 5 10 (bl 12 47) HT_ ?_
 refine pq_ 6 11 (bl 12 111) HT_ ?_
 refine pq_ 7 12 (bl 12 239) HT_ ?_
 refine tq_ 8 13 (bl 12 495) HT_ HW_ hHeld ?_ (hr := by rintro w' ⟨s0, s1⟩; go_simp; with_reducible rfl)
 refine one_ (i := 4) (N := some 9) (bl 12 511) rfl rfl (one_of HT_.out (by kernel_rfl)) (by decide) (fun K hK => ?_)
 refine gD_ Tryd.func28 #[.pointer (some ⟨ai, 0, none⟩)] ?_
 with_reducible refine (aimd_Aimd_Rate.calls ai s0_0.a0 s0_0.a1 s0_0.a2 s0_0.a3 s0_0.a4 s0_0.a5 s0_0.a6 s0_0.a7 s0_0.a8 s0_0.a0 s0_0.a0 s0_0.a1 s0_0.a2 s0_0.a3 s0_0.a4 s0_0.a5 s0_0.a6 s0_0.a7 s0_0.a8 w0 _ HX.out.st.ai HX.out.bel rfl).mono ?_
 rintro e w2 ⟨rfl, hi, hb, hk⟩
 have n0_ := aW (HZ.aimd HX.out hi hb hk)
 refine ⟨_, rfl, ?_⟩
 clear HX
 have HX : Aside0 (HZ w0 w _ g gr tr de ai lo s0_0) := n0_
 clear n0_ hi hb hk
 refine hK.out _ _ ⟨(blk_cell HX.out.st.blk 3).trans rfl, (blk_cell HX.out.st.blk 4).trans rfl⟩ (fun hHeld => ?_)
 clear hK K
 refine no_ 9 ?_
 refine one_ (i := 9) (N := some 14) (bl 12 1023) rfl rfl (one_of HT_.out (by kernel_rfl)) (by decide) (fun K hK => ?_)
 refine gD_ Tryd.func29 #[.pointer (some ⟨lo, 0, none⟩)] ?_
 with_reducible refine (lossy_Lossy_Rate.calls lo s0_0.l0 s0_0.l1 s0_0.l2 s0_0.l3 s0_0.l4 s0_0.l0 s0_0.l0 s0_0.l1 s0_0.l2 s0_0.l3 s0_0.l4 w0 _ HX.out.st.lo HX.out.bel rfl).mono ?_
 rintro e w3 ⟨rfl, hi, hb, hk⟩
 have n0_ := aW (HZ.lossy HX.out hi hb hk)
 refine ⟨_, rfl, ?_⟩
 clear HX
 have HX : Aside0 (HZ w0 w _ g gr tr de ai lo s0_0) := n0_
 clear n0_ hi hb hk
 refine hK.out _ _ ⟨(blk_cell HX.out.st.blk 3).trans rfl, (blk_cell HX.out.st.blk 4).trans rfl⟩ (fun hHeld => ?_)
 clear hK K
 refine no_ 14 ?_
 refine pq_ 10 15 (bl 12 2047) HT_ ?_
 refine pq_ 11 2 (bl 12 4095) HT_ ?_
 refine done_ (done_of HT_.out (by kernel_rfl)) ?_
 try go_wp2
 go_ret
 have hz_ := (show HZ w0 w _ g gr tr de ai lo s0_0 from o64)
 exact ⟨by first | rfl | (simp only [hmn]; done) | (simp [*]; done), ⟨gr, tr, de, ai, lo, hz_.st⟩, hz_.bel, hz_.ks, fun gr' tr' de' ai' lo' h' => by obtain ⟨rfl, rfl, rfl, rfl, rfl⟩ := G65.uniq H0.out h'; exact hz_.st⟩
def add64s (x y c : Int) : Int := (((x.toNat + y.toNat + c.toNat) % 18446744073709551616 : Nat) : Int)
def add64c (x y c : Int) : Int := (((x.toNat + y.toNat + c.toNat) / 18446744073709551616 : Nat) : Int)
theorem run_add64_any (x y c : Int) (hc : c ≤ 1) (w : World) :
  (callFunc 49 #[.int .u64 x, .int .u64 y, .int .u64 c]).run Tryd.prog w = .ok (.value (.tuple #[.int .u64 (add64s x y c), .int .u64 (add64c x y c)])) w := by
 rw [run_callFunc_extern Tryd.func49 (by kernel_rfl) (by kernel_rfl) (by kernel_rfl) (e := add64Entry) (by kernel_rfl)]
 have key : (add64Entry #[.int .u64 x, .int .u64 y, .int .u64 c]).run Tryd.prog w = .ok (.tuple #[.int .u64 (add64s x y c), .int .u64 (add64c x y c)]) w := by
  cases c with
  | ofNat k =>
   have hk : k = 0 ∨ k = 1 := by have : ((k : Nat) : Int) ≤ 1 := hc; omega
   rcases hk with rfl | rfl <;> rfl
  | negSucc n => rfl
 rw [key]
 rfl
theorem run_add64_0 (x y : Int) (w : World) :
  (callFunc 49 #[.int .u64 x, .int .u64 y, .int .u64 0]).run Tryd.prog w = .ok (.value (.tuple #[.int .u64 (add64s x y 0), .int .u64 (add64c x y 0)])) w := run_add64_any x y 0 (by decide) w
theorem run_add64_c (x y c : Int) (hc : decide (c ≤ 1) = true) (w : World) :
  (callFunc 49 #[.int .u64 x, .int .u64 y, .int .u64 c]).run Tryd.prog w = .ok (.value (.tuple #[.int .u64 (add64s x y c), .int .u64 (add64c x y c)])) w := run_add64_any x y c (of_decide_eq_true hc) w
end Go.Proofs.YtphgeljglhjamaaDoor.P
end

section
namespace Go.Proofs.YtphgeljglhjamaaDoor.P
open Go.RowKit Go.Proofs.YtphgeljglhjamaaDoorW.PrintWords Go.Proofs.YtphgeljglhjamaaDoorW.PrintLast Go.Proofs.YtphgeljglhjamaaDoorW.PrintMore
attribute [local go_sem] max2_int min2_int max_two min_two max_three min_three max_four min_four
set_option linter.unusedVariables false
set_option linter.unusedSimpArgs false
def sat_plus.l0 : Nat → List Int → Int → Int → Int → Int → Option (Int × Int)
 | 0, _, _, _, _, _ => none
 | k + 1, x11, x12, x13, x115000, x115001 => if x13 < x12 then (if 0 ≤ x13 then (if x13 < (x11.length : Int) then (if (add64c x115001 (IntKind.u64.wrap (rd x11 x13)) 0) ≤ 1 then (sat_plus.l0 k x11 x12 (wrap64 (x13 + 1)) (add64s x115000 (IntKind.u64.wrap ((rd x11 x13) / 9223372036854775808)) (add64c x115001 (IntKind.u64.wrap (rd x11 x13)) 0)) (add64s x115001 (IntKind.u64.wrap (rd x11 x13)) 0)) else (none)) else (none)) else (none)) else (some (x115000, x115001))
def sat_plus.f (k : Nat) (a0_0 : Int) (a0_1 : Int) (l1 : List Int) : Option (Int × Int) := sat_plus.l0 k l1 (l1.length : Int) 0 a0_0 a0_1
theorem sat_plus.mono_l : ∀ k, (∀ y0 y1 y2 y3 y4, LeO (sat_plus.l0 k y0 y1 y2 y3 y4) (sat_plus.l0 (k + 1) y0 y1 y2 y3 y4))
 | 0 => fun _ _ _ _ _ r h => by simp [sat_plus.l0] at h
 | k + 1 => by
  have ih0 := sat_plus.mono_l k
  ·intro y0 y1 y2 y3 y4
   unfold sat_plus.l0
   repeat' first
   | (with_reducible exact ih0 _ _ _ _ _)
   | (with_reducible exact LeO.refl _)
   | (with_reducible exact LeO.none _)
   | (with_reducible refine LeO.ite ?_ ?_)
   | (with_reducible refine LeO.bind ?_ (fun _ => ?_))
   | exact ih0 _ _ _ _ _
   | exact LeO.none _
   | refine LeO.ite ?_ ?_
   | refine LeO.bind ?_ (fun _ => ?_)
theorem sat_plus.mono : ∀ a0 a1 a2 k, LeO (sat_plus.f k a0 a1 a2) (sat_plus.f (k + 1) a0 a1 a2) := by
 intro a0 a1 a2 k
 have ih0 := sat_plus.mono_l k
 unfold sat_plus.f
 repeat' first
   | (with_reducible exact ih0 _ _ _ _ _)
   | (with_reducible exact LeO.refl _)
   | (with_reducible exact LeO.none _)
   | (with_reducible refine LeO.ite ?_ ?_)
   | (with_reducible refine LeO.bind ?_ (fun _ => ?_))
   | exact ih0 _ _ _ _ _
   | exact LeO.none _
   | refine LeO.ite ?_ ?_
   | refine LeO.bind ?_ (fun _ => ?_)
set_option maxHeartbeats 8000000 in
set_option maxRecDepth 100000 in
theorem sat_plus.calls (k : Nat) (a0_0 : Int) (a0_1 : Int) (A1 : Option Addr) (c1 : Nat) (l1 : List Int) (r1 : Int) (r2 : Int) (w : World) (hr1 : Kd.C (Kd.int .i64) w A1 l1.length l1) (hc1 : l1.length ≤ c1) (h : sat_plus.f k a0_0 a0_1 l1 = some (r1, r2)) :
  Calls Tryd.prog 39 #[.agg #[.int .u64 a0_0, .int .u64 a0_1], .slice A1 l1.length c1] w fun e w' => e = .returned (.agg #[.int .u64 r1, .int .u64 r2]) ∧ Below w.heap.size w w' := by
 have hu97 := Tryd.underlying97
 have hext_add64_0 := @run_add64_0
 have hext_add64_c := @run_add64_c
 have HR1 := aW hr1
 have HC1 := aW hc1
 clear hr1 hc1
 have HB := aW (Below.refl w.heap.size w)
 have H : (sat_plus.l0 k l1 (l1.length : Int) 0 a0_0 a0_1) = some (r1, r2) := h
 clear h
 have H' := aW H
 clear H
 go_enter Tryd.func39, Tryd.ntmps39
 go_wp2_with (first | ((with_reducible refine gate_dst (N := 2) rfl ?_); refine box_event ?hg (N := 2) ?hd (cs := #[.int .u64 a0_0, .int .u64 a0_1]) (t := 97) ?hr ?_; (case hd => rfl); (case hg => rfl); (case hr => first | (go_simp; done) | (go_simp; rfl)); intro gb114 hg w3 hbox hb; have GE114 := aW ((by rw [hg]; exact (below_size o76) : w.heap.size ≤ gb114)); have GW114 := aW ((by rw [hg]; exact (below_size o76) : w.heap.size ≤ gb114)); have BK114 := aW (hbox); replace HB := aW (below_step o76 hb); clear hb hbox hg) | ((with_reducible refine gate_dst (N := 4) rfl ?_); refine box_event ?hg (N := 4) ?hd (cs := #[.int .u64 0, .int .u64 0]) (t := 97) ?hr ?_; (case hd => rfl); (case hg => rfl); (case hr => first | (go_simp; done) | (go_simp; rfl)); intro gb115 hg w4 hbox hb; have NB115_114 := aW ((by rw [hg]; exact Nat.ne_of_gt (blk_lt (g := gb114) (o := .cells #[.int .u64 a0_0, .int .u64 a0_1] 97 (0, 0)) o84) : gb115 ≠ gb114)); have NB114_115 := aW ((by rw [hg]; exact Nat.ne_of_lt (blk_lt (g := gb114) (o := .cells #[.int .u64 a0_0, .int .u64 a0_1] 97 (0, 0)) o84) : gb114 ≠ gb115)); have GE115 := aW ((by rw [hg]; exact (below_size o60) : w.heap.size ≤ gb115)); have GW115 := aW ((by rw [hg]; exact (below_size o60) : w.heap.size ≤ gb115)); have BK115 := aW (hbox); replace HB := aW (below_step o60 hb); replace BK114 := aW (blk_below (g := gb114) (o := .cells #[.int .u64 a0_0, .int .u64 a0_1] 97 (0, 0)) o84 hb); clear hb hbox hg))
 go_loopg [13] k (fun kq v13 w' => ∃ (x13_1 : Int) (x115000_1 : Int) (x115001_1 : Int), v13 = .int .i64 x13_1 ∧ Aside0 (sat_plus.l0 kq l1 (l1.length : Int) x13_1 x115000_1 x115001_1 = some (r1, r2)) ∧ Aside0 (kq ≤ k) ∧ Aside0 (w'.heap[gb114]? = some (.cells #[.int .u64 x115000_1, .int .u64 x115001_1] 97 (0, 0))) ∧ Aside0 (w'.heap[gb115]? = some (.cells #[.int .u64 0, .int .u64 0] 97 (0, 0))) ∧ Aside0 (Below w.heap.size w w'))
 case atStart => exact ⟨(0), (a0_0), (a0_1), o105, H', ⟨Nat.le_refl _⟩, ⟨by (with_reducible repeat (first | refine blk_drewN ?_ _ | refine blk_drew ?_ | refine blk_alloc ?_ _)); exact BK114.out⟩, ⟨by (with_reducible repeat (first | refine blk_drewN ?_ _ | refine blk_drew ?_ | refine blk_alloc ?_ _)); exact BK115.out⟩, ⟨o37⟩⟩
 case round =>
  clear H'
  try clear c1
  try clear p2
  try clear c3
  obtain ⟨x13_1, x115000_1, x115001_1, rfl, HA, HK1, BK114, BK115, HB⟩ := hrel
  cases gk with
  | zero => exact absurd HA.out (by simp [sat_plus.l0])
  | succ k1 =>
   have H := HA.out
   clear HA
   simp only [sat_plus.l0] at H
   by_cases c5 : x13_1 < (l1.length : Int)
   ·rw [if_pos c5] at H
    have c5b0 : decide (x13_1 < (l1.length : Int)) = true := decide_eq_true c5
    clear c5
    by_cases c6 : 0 ≤ x13_1
    ·rw [if_pos c6] at H
     have c6b0 : decide (0 ≤ x13_1) = true := decide_eq_true c6
     clear c6
     by_cases c7 : x13_1 < (l1.length : Int)
     ·rw [if_pos c7] at H
      have c7b0 : decide (x13_1 < (l1.length : Int)) = true := decide_eq_true c7
      clear c7
      by_cases c8 : (add64c x115001_1 (IntKind.u64.wrap (rd l1 x13_1)) 0) ≤ 1
      ·rw [if_pos c8] at H
       have c8b0 := eq_true c8
       have c8b1 : decide ((add64c x115001_1 (IntKind.u64.wrap (rd l1 x13_1)) 0) ≤ 1) = true := decide_eq_true c8
       clear c8
       have H' := aW H
       clear H
       have p116 : 0 ≤ (x13_1 : Int) := of_decide_eq_true o104
       have q116 : x13_1 < (l1.length : Int) := of_decide_eq_true o104
       obtain ⟨ad116, e116, hx116_0⟩ := Kd.at_int HR1.out x13_1 p116 q116
       cases e116
       replace hx116_0 := (HB.out.cell (World.block_lt_of_cell? w _ hx116_0)).trans hx116_0
       replace p116 := eq_true p116
       replace q116 := eq_true q116
       have hnb9 := NB114_115.out
       have hnc9 := NB115_114.out
       obtain ⟨hcz10_0, hfz10_0, hcz10_1, hfz10_1⟩ := bp2 BK114.out
       go_wp2
       go_roundg k1
       case measure => have := HK1.out; omega
       case rel => exact ⟨(wrap64 (x13_1 + 1)), (add64s x115000_1 (IntKind.u64.wrap ((rd l1 x13_1) / 9223372036854775808)) (add64c x115001_1 (IntKind.u64.wrap (rd l1 x13_1)) 0)), (add64s x115001_1 (IntKind.u64.wrap (rd l1 x13_1)) 0), o105, H', ⟨by have := HK1.out; omega⟩, ⟨by (with_reducible repeat (first | refine blk_drewN ?_ _ | refine blk_drew ?_ | refine blk_alloc ?_ _)); refine blk_put (cs := #[.int .u64 (add64s x115000_1 (IntKind.u64.wrap ((rd l1 x13_1) / 9223372036854775808)) (add64c x115001_1 (IntKind.u64.wrap (rd l1 x13_1)) 0)), .int .u64 x115001_1]) ?_ 1 _ rfl; (with_reducible repeat (first | refine blk_drewN ?_ _ | refine blk_drew ?_ | refine blk_alloc ?_ _)); refine blk_put (cs := #[.int .u64 x115000_1, .int .u64 x115001_1]) ?_ 0 _ rfl; (with_reducible repeat (first | refine blk_drewN ?_ _ | refine blk_drew ?_ | refine blk_alloc ?_ _)); exact BK114.out⟩, ⟨by (with_reducible repeat (first | refine blk_drewN ?_ _ | refine blk_drew ?_ | refine blk_alloc ?_ _)); refine blk_far ?_ NB115_114.out _; (with_reducible repeat (first | refine blk_drewN ?_ _ | refine blk_drew ?_ | refine blk_alloc ?_ _)); refine blk_far ?_ NB115_114.out _; (with_reducible repeat (first | refine blk_drewN ?_ _ | refine blk_drew ?_ | refine blk_alloc ?_ _)); exact BK115.out⟩, ⟨o37⟩⟩
      ·rw [if_neg c8] at H
       exact absurd H (by simp)
     ·rw [if_neg c7] at H
      exact absurd H (by simp)
    ·rw [if_neg c6] at H
     exact absurd H (by simp)
   ·rw [if_neg c5] at H
    have c5b0 : decide (x13_1 < (l1.length : Int)) = false := decide_eq_false c5
    clear c5
    simp only [Option.some.injEq, Prod.mk.injEq] at H
    obtain ⟨rfl, rfl⟩ := H
    have hnb11 := NB114_115.out
    have hnc11 := NB115_114.out
    obtain ⟨hcz12_0, hfz12_0, hcz12_1, hfz12_1⟩ := bp2 BK114.out
    obtain ⟨hcz13_0, hfz13_0, hcz13_1, hfz13_1⟩ := bp2 BK115.out
    go_wp2
    refine bodyPost_ret (results_cell_row rfl _ _ gb115 97 #[.int .u64 x115000_1, .int .u64 x115001_1] (0, 0) _ rfl (by (with_reducible repeat (first | refine blk_drewN ?_ _ | refine blk_drew ?_ | refine blk_alloc ?_ _)); refine blk_put (cs := #[.int .u64 x115000_1, .int .u64 0]) ?_ 1 _ rfl; (with_reducible repeat (first | refine blk_drewN ?_ _ | refine blk_drew ?_ | refine blk_alloc ?_ _)); refine blk_put (cs := #[.int .u64 0, .int .u64 0]) ?_ 0 _ rfl; (with_reducible repeat (first | refine blk_drewN ?_ _ | refine blk_drew ?_ | refine blk_alloc ?_ _)); exact BK115.out) Tryd.underlying97 rfl (by kernel_rfl)) rfl ?_
    exact ⟨o95, o37⟩
def sub64s (x y b : Int) : Int := (((x.toNat + 18446744073709551616 - y.toNat - b.toNat) % 18446744073709551616 : Nat) : Int)
def sub64c (x y b : Int) : Int := ((if x.toNat < y.toNat + b.toNat then 1 else 0 : Nat) : Int)
def sub64Entry : Array Value → Sem Value := fun args => do
 let (x, y, b) ← Extern.MathBitsCarry.three "Sub64" args
 pure (Extern.MathBitsCarry.pair ((x + Extern.MathBitsCarry.m64 - y - b) % Extern.MathBitsCarry.m64) (if x < y + b then 1 else 0))
theorem run_sub64_any (x y c : Int) (hc : c ≤ 1) (w : World) :
  (callFunc 50 #[.int .u64 x, .int .u64 y, .int .u64 c]).run Tryd.prog w = .ok (.value (.tuple #[.int .u64 (sub64s x y c), .int .u64 (sub64c x y c)])) w := by
 rw [run_callFunc_extern Tryd.func50 (by kernel_rfl) (by kernel_rfl) (by kernel_rfl) (e := sub64Entry) (by kernel_rfl)]
 have key : (sub64Entry #[.int .u64 x, .int .u64 y, .int .u64 c]).run Tryd.prog w = .ok (.tuple #[.int .u64 (sub64s x y c), .int .u64 (sub64c x y c)]) w := by
  cases c with
  | ofNat k =>
   have hk : k = 0 ∨ k = 1 := by have : ((k : Nat) : Int) ≤ 1 := hc; omega
   rcases hk with rfl | rfl <;> rfl
  | negSucc n => rfl
 rw [key]
 rfl
theorem run_sub64_0 (x y : Int) (w : World) :
  (callFunc 50 #[.int .u64 x, .int .u64 y, .int .u64 0]).run Tryd.prog w = .ok (.value (.tuple #[.int .u64 (sub64s x y 0), .int .u64 (sub64c x y 0)])) w := run_sub64_any x y 0 (by decide) w
theorem run_sub64_c (x y c : Int) (hc : decide (c ≤ 1) = true) (w : World) :
  (callFunc 50 #[.int .u64 x, .int .u64 y, .int .u64 c]).run Tryd.prog w = .ok (.value (.tuple #[.int .u64 (sub64s x y c), .int .u64 (sub64c x y c)])) w := run_sub64_any x y c (of_decide_eq_true hc) w
def sat_negative.f (a0 : Int) : Option (Int × Int) := if (sub64c 0 (IntKind.u64.wrap (a0)) 0) ≤ 1 then (some (sub64s 0 (IntKind.u64.wrap (a0 / 9223372036854775808)) (sub64c 0 (IntKind.u64.wrap (a0)) 0), sub64s 0 (IntKind.u64.wrap (a0)) 0)) else (none)
set_option maxHeartbeats 8000000 in
set_option maxRecDepth 100000 in
theorem sat_negative.calls (a0 : Int) (r1 : Int) (r2 : Int) (w : World) (h : sat_negative.f a0 = some (r1, r2)) :
  Calls Tryd.prog 40 #[.int .i64 a0] w fun e w' => e = .returned (.agg #[.int .u64 r1, .int .u64 r2]) ∧ Below w.heap.size w w' := by
 have hu97 := Tryd.underlying97
 have hext_sub64_0 := @run_sub64_0
 have hext_sub64_c := @run_sub64_c
 have HB := aW (Below.refl w.heap.size w)
 have H : (if (sub64c 0 (IntKind.u64.wrap (a0)) 0) ≤ 1 then (some (sub64s 0 (IntKind.u64.wrap (a0 / 9223372036854775808)) (sub64c 0 (IntKind.u64.wrap (a0)) 0), sub64s 0 (IntKind.u64.wrap (a0)) 0)) else (none)) = some (r1, r2) := h
 clear h
 by_cases c2 : (sub64c 0 (IntKind.u64.wrap (a0)) 0) ≤ 1
 ·rw [if_pos c2] at H
  have c2b0 := eq_true c2
  have c2b1 : decide ((sub64c 0 (IntKind.u64.wrap (a0)) 0) ≤ 1) = true := decide_eq_true c2
  clear c2
  simp only [Option.some.injEq, Prod.mk.injEq] at H
  obtain ⟨rfl, rfl⟩ := H
  go_enter Tryd.func40, Tryd.ntmps40
  go_wp2_with (first | ((with_reducible refine gate_dst (N := 2) rfl ?_); refine box_event ?hg (N := 2) ?hd (cs := #[.int .u64 0, .int .u64 0]) (t := 97) ?hr ?_; (case hd => rfl); (case hg => rfl); (case hr => first | (go_simp; done) | (go_simp; rfl)); intro gb117 hg w3 hbox hb; have GE117 := aW ((by rw [hg]; exact (below_size o76) : w.heap.size ≤ gb117)); have GW117 := aW ((by rw [hg]; exact (below_size o76) : w.heap.size ≤ gb117)); have BK117 := aW (hbox); replace HB := aW (below_step o76 hb); clear hb hbox hg; have hcz4_0 : w3.cell? ⟨gb117, 0, none⟩ = some (.int .u64 0) := (blk_cell BK117.out 0).trans rfl; have hcz4_1 : w3.cell? ⟨gb117, 1, none⟩ = some (.int .u64 0) := (blk_cell BK117.out 1).trans rfl; have hfz4_0 := blk_frozen BK117.out 0; have hfz4_1 := blk_frozen BK117.out 1))
  refine bodyPost_ret (results_cell_row rfl _ _ gb117 97 #[.int .u64 (sub64s 0 (IntKind.u64.wrap (a0 / 9223372036854775808)) (sub64c 0 (IntKind.u64.wrap (a0)) 0)), .int .u64 (sub64s 0 (IntKind.u64.wrap (a0)) 0)] (0, 0) _ rfl (by (with_reducible repeat (first | refine blk_drewN ?_ _ | refine blk_drew ?_ | refine blk_alloc ?_ _)); refine blk_put (cs := #[.int .u64 (sub64s 0 (IntKind.u64.wrap (a0 / 9223372036854775808)) (sub64c 0 (IntKind.u64.wrap (a0)) 0)), .int .u64 0]) ?_ 1 _ rfl; (with_reducible repeat (first | refine blk_drewN ?_ _ | refine blk_drew ?_ | refine blk_alloc ?_ _)); refine blk_put (cs := #[.int .u64 0, .int .u64 0]) ?_ 0 _ rfl; (with_reducible repeat (first | refine blk_drewN ?_ _ | refine blk_drew ?_ | refine blk_alloc ?_ _)); exact BK117.out) Tryd.underlying97 rfl (by kernel_rfl)) rfl ?_
  exact ⟨o95, by repeat (first | (with_reducible first | exact HB.out | apply below_alloc | apply pw_below_drewN | apply below_drew1 | refine below_set ?_ GE117.out) | exact HB.out)⟩
 ·rw [if_neg c2] at H
  exact absurd H (by simp)
def sat_Sub.f (k : Nat) (a0 : Int) (a1 : Int) : Option (Int) := (sat_negative.f a1).bind fun bt118 => ((sat_plus.f k bt118.1 bt118.2 (([a0] : List Int))).bind fun bt123 => ((sat_held.f bt123.1 bt123.2).bind fun t125 => (some t125)))
theorem sat_Sub.mono : ∀ a0 a1 k, LeO (sat_Sub.f k a0 a1) (sat_Sub.f (k + 1) a0 a1) := by
 intro a0 a1 k
 unfold sat_Sub.f
 repeat' first
   | (with_reducible exact sat_plus.mono _ _ _ _)
   | (with_reducible exact LeO.refl _)
   | (with_reducible exact LeO.none _)
   | (with_reducible refine LeO.ite ?_ ?_)
   | (with_reducible refine LeO.bind ?_ (fun _ => ?_))
   | exact sat_plus.mono _ _ _ _
   | exact LeO.none _
   | refine LeO.ite ?_ ?_
   | refine LeO.bind ?_ (fun _ => ?_)
set_option maxHeartbeats 8000000 in
set_option maxRecDepth 100000 in
theorem sat_Sub.calls (k : Nat) (a0 : Int) (a1 : Int) (r : Int) (w : World) (h : sat_Sub.f k a0 a1 = some r) :
  Calls Tryd.prog 24 #[.int .i64 a0, .int .i64 a1] w fun e w' => e = .returned (.int .i64 r) ∧ Below w.heap.size w w' := by
 have HB := aW (Below.refl w.heap.size w)
 have H : ((sat_negative.f a1).bind fun bt118 => ((sat_plus.f k bt118.1 bt118.2 (([a0] : List Int))).bind fun bt123 => ((sat_held.f bt123.1 bt123.2).bind fun t125 => (some t125)))) = some r := h
 clear h
 replace H := Option.bind_eq_some_iff.mp H
 obtain ⟨⟨t118, t119⟩, A30, H⟩ := H
 replace H : ((sat_plus.f k t118 t119 (([a0] : List Int))).bind fun bt123 => ((sat_held.f bt123.1 bt123.2).bind fun t125 => (some t125))) = some r := H
 have A3 := aW A30
 clear A30
 obtain ⟨y120, hy120⟩ : ∃ y_ : List Int, y_ = (([a0] : List Int)) := ⟨_, rfl⟩
 replace H : ((sat_plus.f k t118 t119 y120).bind fun bt123 => ((sat_held.f bt123.1 bt123.2).bind fun t125 => (some t125))) = some r := by first | (rw [hy120]; with_reducible exact H) | (have H2_ := (Option.bind_some _ _).symm.trans H; rw [hy120]; with_reducible exact H2_) | (have H2_ := (Option.bind_some _ _).symm.trans H; with_reducible exact H2_) | with_reducible exact H | (rw [hy120]; exact H) | exact H
 have Ny120 := aW hy120
 clear hy120
 replace H := Option.bind_eq_some_iff.mp H
 obtain ⟨⟨t123, t124⟩, A40, H⟩ := H
 replace H : ((sat_held.f t123 t124).bind fun t125 => (some t125)) = some r := H
 have A4 := aW A40
 clear A40
 obtain ⟨t125, A5, H⟩ := bw H
 obtain rfl := Option.some.inj H
 go_enter Tryd.func24, Tryd.ntmps24
 go_wp2_with (first | ((with_reducible refine gate_callee (f := 40) rfl ?_); refine gL_ 6 Tryd.func40 #[.int .i64 a1] ?_; (with_reducible refine (sat_negative.calls a1 t118 t119 _ A3.out).mono ?_); rintro e w6 ⟨rfl, hb⟩; refine ⟨_, rfl, ?_⟩; replace HB := aW (below_step o76 hb); (try clear hb); (try clear hb2); (try clear hk); (try clear hi)) | ((with_reducible refine gate_dst (N := 8) rfl ?_); refine Kd.R_lit (Kd.int .i64) _ 2 ?hg (N := 8) ?hd (xs := ([a0] : List Int)) (inner := [.int .i64 a0]) (ok := fun _ => True) (okp := fun _ => True) ?hr ?hp (fun _ hk => hk) trivial bR (Nat.le_refl _) (by simp) ?_; (case hd => rfl); (case hg => rfl); (case hr => first | (go_simp; done) | (go_simp; rfl)); (case hp => exact (Reps.one (show Kd.M (Kd.int .i64) _ _ _ a0 [.int .i64 a0] from rfl) (Reps.none _ _))); intro v121 w7 ho8 hb hg_ hnew_; clear hg_ hnew_; (first | rw [← Ny120.out] at ho8 | (simp only [Int.reduceToNat] at ho8; rw [← Ny120.out] at ho8)); have n0_ := aW (Kd.R_lower ho8 (below_size o76)); have n1_ := aW (below_step o76 hb); clear HB; have HO122 := n0_; have HB := n1_; clear n0_ n1_; clear hb ho8; obtain ⟨Ao9, co9, eo9⟩ := Kd.R_slice HO122.out; subst eo9) | ((with_reducible refine gate_callee (f := 39) rfl ?_); refine gL_ 9 Tryd.func39 #[.agg #[.int .u64 t118, .int .u64 t119], .slice Ao9 y120.length co9] ?_; (with_reducible refine (sat_plus.calls k t118 t119 _ _ y120 t123 t124 _ ?side1 ?side2 A4.out).mono ?_); (case side1 => repeat (first | exact (Kd.R_reads' HO122.out).2.2 | (with_reducible refine Kd.C_alloc ?_ _) | (with_reducible refine Kd.C_drewN ?_ _) | (with_reducible refine Kd.C_drew ?_))); (case side2 => exact (Kd.R_reads' HO122.out).2.1); rintro e w10 ⟨rfl, hb⟩; refine ⟨_, rfl, ?_⟩; replace HB := aW (below_step o76 hb); replace HO122 := aW (Kd.R_below (by (with_reducible repeat (first | apply Kd.R_alloc | apply Kd.R_drewN | apply Kd.R_drew)); exact HO122.out) hb); (try clear hb); (try clear hb2); (try clear hk); (try clear hi)) | ((with_reducible refine gate_callee (f := 38) rfl ?_); refine gL_ 10 Tryd.func38 #[.agg #[.int .u64 t123, .int .u64 t124]] ?_; (with_reducible refine (sat_held.calls t123 t124 t125 _ A5.out).mono ?_); rintro e w11 ⟨rfl, hb⟩; refine ⟨_, rfl, ?_⟩; replace HB := aW (below_step o76 hb); replace HO122 := aW (Kd.R_below (by (with_reducible repeat (first | apply Kd.R_alloc | apply Kd.R_drewN | apply Kd.R_drew)); exact HO122.out) hb); (try clear hb); (try clear hb2); (try clear hk); (try clear hi)))
 go_ret
 exact ⟨o95, o77⟩
structure GF (w0 w W : World) (g : Nat) (cs : Array Value) (d : Option (Int × Int × Int × Int)) (dv : Value) : Prop where
 blk : W.heap[g]? = some (.cells cs 85 (0, 0))
 ge : w0.heap.size ≤ g
 lt : g < w.heap.size
 dn : DN w0 W d dv
 bel : Below w0.heap.size w0 W
 kp : KeepBut w W g none
theorem GF.below {w0 w W W1 : World} {g : Nat} {cs : Array Value} {d : Option (Int × Int × Int × Int)} {dv : Value} (h : GF w0 w W g cs d dv) (hb : Below W.heap.size W W1) : GF w0 w W1 g cs d dv :=
 ⟨blk_below h.blk hb, h.ge, h.lt, DN.same h.dn (fun i cs hi => blk_below hi hb), below_step h.bel hb, h.kp.trans (KeepBut.of_below hb g none) (.inl rfl)⟩
theorem GF.set {w0 w W : World} {g : Nat} {cs cs' : Array Value} {d : Option (Int × Int × Int × Int)} {dv : Value} (h : GF w0 w W g cs d dv) (i : Nat) (u : Value) (e : cs.setIfInBounds i u = cs') : GF w0 w (W.setCell ⟨g, i, none⟩ u) g cs' d dv :=
 ⟨blk_put h.blk i u e, h.ge, h.lt, DN.same h.dn (fun i cs hi => far_t hi h.blk (by decide)), below_set h.bel h.ge, h.kp.set_ i u⟩
theorem GF.setr {w0 w W : World} {g a i : Nat} {cs cs' : Array Value} {t : TypeId} {u : Value} {d : Option (Int × Int × Int × Int)} {dv : Value} (h : GF w0 w W g cs d dv) (ha : W.heap[a]? = some (.cells cs' t (0, 0))) (h1 : t ≠ 85) (h2 : t ≠ 82) (hn : w.heap.size ≤ a) (hn0 : w0.heap.size ≤ a) : GF w0 w (W.setCell ⟨a, i, none⟩ u) g cs d dv :=
 ⟨far_t h.blk ha (Ne.symm h1), h.ge, h.lt, DN.same h.dn (fun i cs hi => far_t hi ha (Ne.symm h2)), below_set h.bel hn0, keep_far h.kp hn u⟩
theorem GF.of {w0 w : World} {g : Nat} {s : GrS} (h : IsS85 w0 w g s) (hB : Below w0.heap.size w0 w) : ∃ dv, GF w0 w w g (GC s dv) s.d dv := by
 obtain ⟨dv, h1, h2, h3⟩ := h
 exact ⟨dv, h1, h2, blk_lt h1, h3, hB, KeepBut.refl w g none⟩
structure GX (w0 w W : World) (g ba br : Nat) (cs : Array Value) (d : Option (Int × Int × Int × Int)) (dv : Value) (av rs : Array Value) : Prop where
 f : GF w0 w W g cs d dv
 a : W.heap[ba]? = some (.cells av 41 (0, 0))
 r : W.heap[br]? = some (.cells rs 67 (0, 0))
 rn : w.heap.size ≤ br
theorem GX.below {w0 w W W1 : World} {g ba br : Nat} {cs av rs : Array Value} {d : Option (Int × Int × Int × Int)} {dv : Value} (h : GX w0 w W g ba br cs d dv av rs) (hb : Below W.heap.size W W1) : GX w0 w W1 g ba br cs d dv av rs := ⟨h.f.below hb, blk_below h.a hb, blk_below h.r hb, h.rn⟩
theorem GX.set {w0 w W : World} {g ba br : Nat} {cs cs' av rs : Array Value} {d : Option (Int × Int × Int × Int)} {dv : Value} (h : GX w0 w W g ba br cs d dv av rs) (i : Nat) (u : Value) (e : cs.setIfInBounds i u = cs') : GX w0 w (W.setCell ⟨g, i, none⟩ u) g ba br cs' d dv av rs :=
 ⟨h.f.set i u e, far_t h.a h.f.blk (by decide), far_t h.r h.f.blk (by decide), h.rn⟩
theorem GX.setr {w0 w W : World} {g ba br : Nat} {cs av rs rs' : Array Value} {d : Option (Int × Int × Int × Int)} {dv : Value} (h : GX w0 w W g ba br cs d dv av rs) (hw : w0.heap.size ≤ w.heap.size) (i : Nat) (u : Value) (e : rs.setIfInBounds i u = rs') : GX w0 w (W.setCell ⟨br, i, none⟩ u) g ba br cs d dv av rs' :=
 ⟨h.f.setr h.r (by decide) (by decide) h.rn (Nat.le_trans hw h.rn), far_t h.a h.r (by decide), blk_put h.r i u e, h.rn⟩
theorem results_row_tmp {P : Program} {fn : Func} {p u : Tmp} {ty : TypeId} (h : fn.results = #[.cell p ty, .tmp u]) (tmps : Array Value) (w : World) (g : Nat) (t : TypeId) (cs : Array Value) (fr : Nat × Nat) (d : TypeDesc)
  (hp : tmps.getD p undef = .pointer (some ⟨g, 0, none⟩)) (hg : w.heap[g]? = some (.cells cs t fr))
  (hu : P.underlying ty = some d) (hd : (match d with | .struct _ | .array _ _ => true | _ => false) = true) (hi : (P.info? ty).map (·.size) = some cs.size) :
  (results fn tmps).run P w = .ok (.tuple #[.agg cs, tmps.getD u undef]) w := by
 rw [results_cell_tmp h, hp]
 simp [asAddr, run_loadVar_row w g t ty cs fr d hg hu hd hi, Result.andThen]
set_option maxHeartbeats 16000000 in
set_option maxRecDepth 100000 in
theorem group_Grouper_begins.calls (g : Nat) (s : GrS) (q sz at_ ca : Int) (late ecn : Bool) (w0 w : World) (hI : IsS85 w0 w g s) (hB : Below w0.heap.size w0 w) :
  Calls Tryd.prog 31 #[.pointer (some ⟨g, 0, none⟩), .agg #[.int .i64 q, .int .i64 sz, .int .i64 at_, .int .i64 ca, .bool late, .bool ecn]] w fun e w' => e = .returned (.tuple #[]) ∧ IsS85 w0 w' g ⟨at_, at_, ca, sz, true, s.d, s.b⟩ ∧ Below w0.heap.size w0 w' ∧ KeepBut w w' g none := by
 have hu85 := Tryd.underlying85
 have hu82 := Tryd.underlying82
 have hu80 := Tryd.underlying80
 have hu41 := Tryd.underlying41
 have hu39 := Tryd.underlying39
 obtain ⟨dv, hg0⟩ := GF.of hI hB
 have HG := aW hg0
 clear hg0 hI
 go_enter Tryd.func31, Tryd.ntmps31
 go_wp2_with (first | ((with_reducible refine gate_dst (N := 3) rfl ?_); refine box_event ?hg (N := 3) ?hd (cs := #[.int .i64 q, .int .i64 sz, .int .i64 at_, .int .i64 ca, .bool late, .bool ecn]) (t := 41) ?hr ?_; (case hd => rfl); (case hg => rfl); (case hr => first | (go_simp; done) | (go_simp; rfl)); intro ba hg w7 hbox hb; have n0_ := aW (GF.below (show GF w0 w _ g (GC s dv) s.d dv from o66) hb); have n1_ := aW hbox; clear HG hb hbox hg; have HG := n0_; have HA := n1_; clear n0_ n1_; obtain ⟨ha0_, haf0_, ha1_, haf1_, ha2_, haf2_, ha3_, haf3_, ha4_, haf4_, ha5_, haf5_⟩ := bp6 HA.out; obtain ⟨hc0_, hcf0_, hc1_, hcf1_, hc2_, hcf2_, hc3_, hcf3_, hc4_, hcf4_⟩ := bp5 HG.out.blk))
 go_end0
 have key : GF w0 w _ g #[.int .i64 at_, .int .i64 at_, .int .i64 ca, .int .i64 sz, .bool true, dv, .int .i64 s.b] s.d dv := GF.set (cs := #[.int .i64 at_, .int .i64 at_, .int .i64 ca, .int .i64 sz, .bool s.o, dv, .int .i64 s.b]) (GF.set (cs := #[.int .i64 at_, .int .i64 at_, .int .i64 ca, .int .i64 s.n, .bool s.o, dv, .int .i64 s.b]) (GF.set (cs := #[.int .i64 at_, .int .i64 at_, .int .i64 s.c, .int .i64 s.n, .bool s.o, dv, .int .i64 s.b]) (GF.set (cs := #[.int .i64 at_, .int .i64 s.l, .int .i64 s.c, .int .i64 s.n, .bool s.o, dv, .int .i64 s.b]) (GF.set (cs := GC s dv) HG.out 0 (.int .i64 at_) rfl) 1 (.int .i64 at_) rfl) 2 (.int .i64 ca) rfl) 3 (.int .i64 sz) rfl) 4 (.bool true) rfl
 exact ⟨rfl, ⟨dv, key.blk, key.ge, key.dn⟩, key.bel, key.kp⟩
end Go.Proofs.YtphgeljglhjamaaDoor.P
end

section
namespace Go.Proofs.YtphgeljglhjamaaDoor.P
open Go.RowKit Go.Proofs.YtphgeljglhjamaaDoorW.PrintWords Go.Proofs.YtphgeljglhjamaaDoorW.PrintLast Go.Proofs.YtphgeljglhjamaaDoorW.PrintMore
attribute [local go_sem] max2_int min2_int max_two min_two max_three min_three max_four min_four
set_option linter.unusedVariables false
set_option linter.unusedSimpArgs false
def group_Grouper_Add.f (k : Nat) (s : GrS) (sz at_ ca : Int) (late : Bool) : Option ((Int × Int × Int) × Bool × GrS) :=
 if late = true then some ((0, 0, 0), false, s) else if sz < 0 then some ((0, 0, 0), false, s) else if 1500 < sz then some ((0, 0, 0), false, s) else if at_ < 0 then some ((0, 0, 0), false, s) else if 1125899906842624 < at_ then some ((0, 0, 0), false, s) else if ca < -1125899906842624 then some ((0, 0, 0), false, s) else if 1125899906842624 < ca then some ((0, 0, 0), false, s)
 else if s.o = false then some ((0, 0, 0), false, ⟨at_, at_, ca, sz, true, s.d, s.b⟩) else if at_ < s.f then some ((0, 0, 0), false, s)
 else if wrap64 (at_ - s.f) ≤ s.b then some ((0, 0, 0), false, ⟨s.f, mx s.l at_, mx s.c ca, wrap64 (s.n + sz), s.o, s.d, s.b⟩)
 else match s.d with
  | none => some ((0, 0, 0), false, ⟨at_, at_, ca, sz, true, (some (s.f, s.l, s.c, s.n)), s.b⟩)
  | some x => (sat_Sub.f k s.l x.2.1).bind fun a => (sat_Sub.f k s.c x.2.2.1).bind fun b => some ((a, b, wrap64 (s.n - x.2.2.2)), true, ⟨at_, at_, ca, sz, true, (some (s.f, s.l, s.c, s.n)), s.b⟩)
theorem group_Grouper_Add.mono : ∀ s sz at_ ca late k, LeO (group_Grouper_Add.f k s sz at_ ca late) (group_Grouper_Add.f (k + 1) s sz at_ ca late) := by
 intro s sz at_ ca late k
 unfold group_Grouper_Add.f
 refine LeO.ite (LeO.refl _) (LeO.ite (LeO.refl _) (LeO.ite (LeO.refl _) (LeO.ite (LeO.refl _) (LeO.ite (LeO.refl _) (LeO.ite (LeO.refl _) (LeO.ite (LeO.refl _) (LeO.ite (LeO.refl _) (LeO.ite (LeO.refl _) (LeO.ite (LeO.refl _) ?_)))))))))
 cases s.d with
 | none => exact LeO.refl _
 | some x => exact LeO.bind (sat_Sub.mono _ _ _) (fun _ => LeO.bind (sat_Sub.mono _ _ _) (fun _ => LeO.refl _))
def group_Grouper_Add.T6 : Bool × List (List Nat × List Nat) := (true, [([], []), ([0], [0]), ([1], [1]), ([], []), ([3], [3]), ([4], [4]), ([5], [5]), ([6], [6]), ([7], [7]), ([2, 8], [2, 8]), ([9], [9])])
def group_Grouper_Add.B6 : List Nat := [0, 1, 3, 0, 8, 24, 56, 120, 248, 511, 1023]
theorem group_Grouper_Add.tab6 : rtab .any (opsOf Tryd.f19 6) = group_Grouper_Add.T6 := by kernel_rfl
theorem group_Grouper_Add.bits6 : waitsOk group_Grouper_Add.T6.2 group_Grouper_Add.B6 = true := by kernel_rfl
def group_Grouper_Add.T8 : Bool × List (List Nat × List Nat) := (true, [([], []), ([0], [0]), ([1], [1]), ([], []), ([3], [3]), ([4], [4]), ([5], [5]), ([6], [6]), ([7], [7]), ([2, 8], [2, 8]), ([], []), ([10], [10]), ([11], [11]), ([12], [12]), ([9, 13], [9, 13]), ([14], [14])])
def group_Grouper_Add.B8 : List Nat := [0, 1, 3, 0, 8, 24, 56, 120, 248, 511, 0, 1024, 3072, 7168, 16383, 32767]
theorem group_Grouper_Add.tab8 : rtab .any (opsOf Tryd.f19 8) = group_Grouper_Add.T8 := by kernel_rfl
theorem group_Grouper_Add.bits8 : waitsOk group_Grouper_Add.T8.2 group_Grouper_Add.B8 = true := by kernel_rfl
def group_Grouper_Add.T9 : Bool × List (List Nat × List Nat) := (true, [([], []), ([], []), ([], []), ([2], [2]), ([3], [3]), ([4], [4]), ([5], [5]), ([6], [6]), ([], []), ([8], [8]), ([9], [9]), ([7, 10], [7, 10]), ([], []), ([12], [12]), ([13], [13]), ([14], [14]), ([15], [15]), ([16], [16]), ([], []), ([18], [18]), ([17, 19], [17, 19]), ([0, 0, 2, 3, 4, 5, 6, 7, 8, 9, 10, 11, 17], [0]), ([21, 0, 2, 3, 4, 5, 6, 7, 8, 9, 10, 11, 17], [21]), ([22, 0, 2, 3, 4, 5, 6, 7, 8, 9, 10, 11, 17], [22]), ([23, 0, 2, 3, 4, 5, 6, 7, 8, 9, 10, 11, 17], [23]), ([24, 11, 0, 2, 3, 4, 5, 6, 7, 8, 9, 10, 11, 17], [11, 24]), ([1, 0, 1, 2, 3, 4, 5, 6, 7, 8, 9, 10, 11, 12, 13, 14, 15, 16, 17, 18, 19, 20, 21, 22, 23, 24, 25], [1]), ([26, 0, 1, 2, 3, 4, 5, 6, 7, 8, 9, 10, 11, 12, 13, 14, 15, 16, 17, 18, 19, 20, 21, 22, 23, 24, 25], [26]), ([27, 0, 1, 2, 3, 4, 5, 6, 7, 8, 9, 10, 11, 12, 13, 14, 15, 16, 17, 18, 19, 20, 21, 22, 23, 24, 25], [27]), ([28, 0, 1, 2, 3, 4, 5, 6, 7, 8, 9, 10, 11, 12, 13, 14, 15, 16, 17, 18, 19, 20, 21, 22, 23, 24, 25], [28]), ([29, 20, 25, 0, 1, 2, 3, 4, 5, 6, 7, 8, 9, 10, 11, 12, 13, 14, 15, 16, 17, 18, 19, 20, 21, 22, 23, 24, 25], [20, 29])])
def group_Grouper_Add.B9 : List Nat := [0, 0, 0, 4, 12, 28, 60, 124, 0, 256, 768, 2044, 0, 4096, 12288, 28672, 61440, 126976, 0, 262144, 1044480, 262141, 2359293, 6553597, 14942205, 31719421, 67108863, 134217727, 268435455, 536870911, 1073741823]
theorem group_Grouper_Add.tab9 : rtab .any (opsOf Tryd.f19 9) = group_Grouper_Add.T9 := by kernel_rfl
theorem group_Grouper_Add.bits9 : waitsOk group_Grouper_Add.T9.2 group_Grouper_Add.B9 = true := by kernel_rfl
def group_Grouper_Add.T10 : Bool × List (List Nat × List Nat) := (true, [([], []), ([0], [0]), ([1], [1]), ([2], [2]), ([3], [3]), ([], []), ([5], [5]), ([6], [6]), ([4, 7], [4, 7]), ([0, 0, 1, 2, 3, 4, 5, 6, 7, 8], [0]), ([9, 0, 1, 2, 3, 4, 5, 6, 7, 8], [9]), ([10, 0, 1, 2, 3, 4, 5, 6, 7, 8], [10]), ([11, 8, 0, 1, 2, 3, 4, 5, 6, 7, 8], [8, 11])])
def group_Grouper_Add.B10 : List Nat := [0, 1, 3, 7, 15, 0, 32, 96, 255, 511, 1023, 2047, 4095]
theorem group_Grouper_Add.tab10 : rtab .any (opsOf Tryd.f19 10) = group_Grouper_Add.T10 := by kernel_rfl
theorem group_Grouper_Add.bits10 : waitsOk group_Grouper_Add.T10.2 group_Grouper_Add.B10 = true := by kernel_rfl
def group_Grouper_Add.T12 : Bool × List (List Nat × List Nat) := (true, [([], []), ([0], [0]), ([1], [1]), ([2], [2]), ([], []), ([4], [4]), ([5], [5]), ([6], [6]), ([], []), ([8, 3, 0, 1, 2, 3, 7, 8], [3, 8]), ([7, 9, 0, 1, 2, 3, 4, 5, 6, 7, 8, 9], [7])])
def group_Grouper_Add.B12 : List Nat := [0, 1, 3, 7, 0, 16, 48, 112, 0, 511, 1023]
theorem group_Grouper_Add.tab12 : rtab .any (opsOf Tryd.f19 12) = group_Grouper_Add.T12 := by kernel_rfl
theorem group_Grouper_Add.bits12 : waitsOk group_Grouper_Add.T12.2 group_Grouper_Add.B12 = true := by kernel_rfl
def group_Grouper_Add.T17 : Bool × List (List Nat × List Nat) := (true, [([], []), ([0], [0]), ([1], [1]), ([], []), ([3], [3]), ([4], [4]), ([5], [5]), ([6], [6]), ([2, 7], [2, 7]), ([], []), ([9], [9]), ([10], [10]), ([], []), ([12], [12]), ([13], [13]), ([14], [14]), ([15], [15]), ([11, 16, 8], [11, 16]), ([], []), ([18], [18]), ([], []), ([20], [20]), ([21], [21]), ([22], [22]), ([19, 23], [19, 23]), ([8, 17, 24], [8, 17, 24]), ([25, 17, 0, 1, 2, 3, 4, 5, 6, 7, 8, 9, 10, 11, 12, 13, 14, 15, 16, 17, 18, 19, 20, 21, 22, 23, 24, 25], [25]), ([26, 0, 1, 2, 3, 4, 5, 6, 7, 8, 9, 10, 11, 12, 13, 14, 15, 16, 17, 18, 19, 20, 21, 22, 23, 24, 25, 26], [])])
def group_Grouper_Add.B17 : List Nat := [0, 1, 3, 0, 8, 24, 56, 120, 255, 0, 512, 1536, 0, 4096, 12288, 28672, 61440, 131071, 0, 262144, 0, 1048576, 3145728, 7340032, 16515072, 33554431, 67108863, 134217727]
theorem group_Grouper_Add.tab17 : rtab .any (opsOf Tryd.f19 17) = group_Grouper_Add.T17 := by kernel_rfl
theorem group_Grouper_Add.bits17 : waitsOk group_Grouper_Add.T17.2 group_Grouper_Add.B17 = true := by kernel_rfl
set_option maxHeartbeats 16000000 in
set_option maxRecDepth 100000 in
theorem group_Grouper_Add.bad0 (k : Nat) (g : Nat) (s : GrS) (q sz at_ ca : Int) (late ecn : Bool) (w0 w : World) (hI : IsS85 w0 w g s) (hB : Below w0.heap.size w0 w) (h0 : late = true) :
  Calls Tryd.prog 19 #[.pointer (some ⟨g, 0, none⟩), .agg #[.int .i64 q, .int .i64 sz, .int .i64 at_, .int .i64 ca, .bool late, .bool ecn]] w fun e w' => e = .returned (.tuple #[.agg #[.int .i64 0, .int .i64 0, .int .i64 0], .bool false]) ∧ IsS85 w0 w' g s ∧ Below w0.heap.size w0 w' ∧ KeepBut w w' g none := by
 have hu85 := Tryd.underlying85
 have hu82 := Tryd.underlying82
 have hu80 := Tryd.underlying80
 have hu41 := Tryd.underlying41
 have hu39 := Tryd.underlying39
 have hu67 := Tryd.underlying67
 have hpn54_eql : ∀ (a_ : Addr) (W_ : World), (Go.binOp .eql 54 (.pointer (some a_)) (.pointer none)).run Tryd.prog W_ = .ok (.bool false) W_ := fun _ _ => by kernel_rfl
 subst h0
 obtain ⟨dv, hg0⟩ := GF.of hI hB
 have HG := aW hg0
 have HWW := aW hB.size
 clear hg0 hI hB
 go_enter Tryd.func19, Tryd.ntmps19
 go_wp2_with (first | ((with_reducible refine gate_dst (N := 3) rfl ?_); refine box_event ?hg (N := 3) ?hd (cs := #[.int .i64 q, .int .i64 sz, .int .i64 at_, .int .i64 ca, .bool true, .bool ecn]) (t := 41) ?hr ?_; (case hd => rfl); (case hg => rfl); (case hr => first | (go_simp; done) | (go_simp; rfl)); intro ba hg w7 hbox hb; have n0_ := aW (GF.below (show GF w0 w _ g (GC s dv) s.d dv from o66) hb); have n1_ := aW hbox; clear HG hb hbox hg; have HG := n0_; have HA := n1_; clear n0_ n1_) | ((with_reducible refine gate_dst (N := 4) rfl ?_); refine box_event ?hg (N := 4) ?hd (cs := #[.int .i64 0, .int .i64 0, .int .i64 0]) (t := 67) ?hr ?_; (case hd => rfl); (case hg => rfl); (case hr => first | (go_simp; done) | (go_simp; rfl)); intro br hg w8 hbox hb; have n2_ := aW (show w.heap.size ≤ br from by rw [hg]; exact HG.out.kp.1); have n0_ := aW (GX.mk (GF.below (show GF w0 w _ g (GC s dv) s.d dv from o66) hb) (blk_below (g := ba) (o := .cells #[.int .i64 q, .int .i64 sz, .int .i64 at_, .int .i64 ca, .bool true, .bool ecn] 41 (0, 0)) HA.out hb) hbox n2_.out); clear HG HA hb hbox hg n2_; have HX := n0_; clear n0_; obtain ⟨ha0_, haf0_, ha1_, haf1_, ha2_, haf2_, ha3_, haf3_, ha4_, haf4_, ha5_, haf5_⟩ := bp6 HX.out.a; obtain ⟨hc0_, hcf0_, hc1_, hcf1_, hc2_, hcf2_, hc3_, hcf3_, hc4_, hcf4_, hc5_, hcf5_, hc6_, hcf6_⟩ := bp7 HX.out.f.blk; obtain ⟨hr0_, hrf0_, hr1_, hrf1_, hr2_, hrf2_⟩ := bp3 HX.out.r))
 have key : GX w0 w _ g ba br (GC s dv) s.d dv #[.int .i64 q, .int .i64 sz, .int .i64 at_, .int .i64 ca, .bool true, .bool ecn] #[.int .i64 0, .int .i64 0, .int .i64 0] := GX.setr (rs := #[.int .i64 0, .int .i64 0, .int .i64 0]) (GX.setr (rs := #[.int .i64 0, .int .i64 0, .int .i64 0]) (GX.setr (rs := #[.int .i64 0, .int .i64 0, .int .i64 0]) (HX.out) HWW.out 0 (.int .i64 0) rfl) HWW.out 1 (.int .i64 0) rfl) HWW.out 2 (.int .i64 0) rfl
 refine bodyPost_ret (results_row_tmp rfl _ _ br 67 #[.int .i64 0, .int .i64 0, .int .i64 0] (0, 0) _ rfl o100 Tryd.underlying67 rfl (by kernel_rfl)) rfl ?_
 exact ⟨rfl, ⟨dv, key.f.blk, key.f.ge, key.f.dn⟩, key.f.bel, key.f.kp⟩
set_option maxHeartbeats 16000000 in
set_option maxRecDepth 100000 in
theorem group_Grouper_Add.bad1 (k : Nat) (g : Nat) (s : GrS) (q sz at_ ca : Int) (late ecn : Bool) (w0 w : World) (hI : IsS85 w0 w g s) (hB : Below w0.heap.size w0 w) (h0 : late = false) (h1 : decide (sz < 0) = true) :
  Calls Tryd.prog 19 #[.pointer (some ⟨g, 0, none⟩), .agg #[.int .i64 q, .int .i64 sz, .int .i64 at_, .int .i64 ca, .bool late, .bool ecn]] w fun e w' => e = .returned (.tuple #[.agg #[.int .i64 0, .int .i64 0, .int .i64 0], .bool false]) ∧ IsS85 w0 w' g s ∧ Below w0.heap.size w0 w' ∧ KeepBut w w' g none := by
 have hu85 := Tryd.underlying85
 have hu82 := Tryd.underlying82
 have hu80 := Tryd.underlying80
 have hu41 := Tryd.underlying41
 have hu39 := Tryd.underlying39
 have hu67 := Tryd.underlying67
 have hpn54_eql : ∀ (a_ : Addr) (W_ : World), (Go.binOp .eql 54 (.pointer (some a_)) (.pointer none)).run Tryd.prog W_ = .ok (.bool false) W_ := fun _ _ => by kernel_rfl
 subst h0
 obtain ⟨dv, hg0⟩ := GF.of hI hB
 have HG := aW hg0
 have HWW := aW hB.size
 clear hg0 hI hB
 go_enter Tryd.func19, Tryd.ntmps19
 go_wp2_with (first | ((with_reducible refine gate_dst (N := 3) rfl ?_); refine box_event ?hg (N := 3) ?hd (cs := #[.int .i64 q, .int .i64 sz, .int .i64 at_, .int .i64 ca, .bool false, .bool ecn]) (t := 41) ?hr ?_; (case hd => rfl); (case hg => rfl); (case hr => first | (go_simp; done) | (go_simp; rfl)); intro ba hg w7 hbox hb; have n0_ := aW (GF.below (show GF w0 w _ g (GC s dv) s.d dv from o66) hb); have n1_ := aW hbox; clear HG hb hbox hg; have HG := n0_; have HA := n1_; clear n0_ n1_) | ((with_reducible refine gate_dst (N := 4) rfl ?_); refine box_event ?hg (N := 4) ?hd (cs := #[.int .i64 0, .int .i64 0, .int .i64 0]) (t := 67) ?hr ?_; (case hd => rfl); (case hg => rfl); (case hr => first | (go_simp; done) | (go_simp; rfl)); intro br hg w8 hbox hb; have n2_ := aW (show w.heap.size ≤ br from by rw [hg]; exact HG.out.kp.1); have n0_ := aW (GX.mk (GF.below (show GF w0 w _ g (GC s dv) s.d dv from o66) hb) (blk_below (g := ba) (o := .cells #[.int .i64 q, .int .i64 sz, .int .i64 at_, .int .i64 ca, .bool false, .bool ecn] 41 (0, 0)) HA.out hb) hbox n2_.out); clear HG HA hb hbox hg n2_; have HX := n0_; clear n0_; obtain ⟨ha0_, haf0_, ha1_, haf1_, ha2_, haf2_, ha3_, haf3_, ha4_, haf4_, ha5_, haf5_⟩ := bp6 HX.out.a; obtain ⟨hc0_, hcf0_, hc1_, hcf1_, hc2_, hcf2_, hc3_, hcf3_, hc4_, hcf4_, hc5_, hcf5_, hc6_, hcf6_⟩ := bp7 HX.out.f.blk; obtain ⟨hr0_, hrf0_, hr1_, hrf1_, hr2_, hrf2_⟩ := bp3 HX.out.r))
 have key : GX w0 w _ g ba br (GC s dv) s.d dv #[.int .i64 q, .int .i64 sz, .int .i64 at_, .int .i64 ca, .bool false, .bool ecn] #[.int .i64 0, .int .i64 0, .int .i64 0] := GX.setr (rs := #[.int .i64 0, .int .i64 0, .int .i64 0]) (GX.setr (rs := #[.int .i64 0, .int .i64 0, .int .i64 0]) (GX.setr (rs := #[.int .i64 0, .int .i64 0, .int .i64 0]) (HX.out) HWW.out 0 (.int .i64 0) rfl) HWW.out 1 (.int .i64 0) rfl) HWW.out 2 (.int .i64 0) rfl
 refine bodyPost_ret (results_row_tmp rfl _ _ br 67 #[.int .i64 0, .int .i64 0, .int .i64 0] (0, 0) _ rfl o100 Tryd.underlying67 rfl (by kernel_rfl)) rfl ?_
 exact ⟨rfl, ⟨dv, key.f.blk, key.f.ge, key.f.dn⟩, key.f.bel, key.f.kp⟩
set_option maxHeartbeats 16000000 in
set_option maxRecDepth 100000 in
theorem group_Grouper_Add.bad2 (k : Nat) (g : Nat) (s : GrS) (q sz at_ ca : Int) (late ecn : Bool) (w0 w : World) (hI : IsS85 w0 w g s) (hB : Below w0.heap.size w0 w) (h0 : late = false) (h1 : decide (sz < 0) = false) (h2 : decide (1500 < sz) = true) :
  Calls Tryd.prog 19 #[.pointer (some ⟨g, 0, none⟩), .agg #[.int .i64 q, .int .i64 sz, .int .i64 at_, .int .i64 ca, .bool late, .bool ecn]] w fun e w' => e = .returned (.tuple #[.agg #[.int .i64 0, .int .i64 0, .int .i64 0], .bool false]) ∧ IsS85 w0 w' g s ∧ Below w0.heap.size w0 w' ∧ KeepBut w w' g none := by
 have hu85 := Tryd.underlying85
 have hu82 := Tryd.underlying82
 have hu80 := Tryd.underlying80
 have hu41 := Tryd.underlying41
 have hu39 := Tryd.underlying39
 have hu67 := Tryd.underlying67
 have hpn54_eql : ∀ (a_ : Addr) (W_ : World), (Go.binOp .eql 54 (.pointer (some a_)) (.pointer none)).run Tryd.prog W_ = .ok (.bool false) W_ := fun _ _ => by kernel_rfl
 subst h0
 obtain ⟨dv, hg0⟩ := GF.of hI hB
 have HG := aW hg0
 have HWW := aW hB.size
 clear hg0 hI hB
 go_enter Tryd.func19, Tryd.ntmps19
 go_wp2_with (first | ((with_reducible refine gate_dst (N := 3) rfl ?_); refine box_event ?hg (N := 3) ?hd (cs := #[.int .i64 q, .int .i64 sz, .int .i64 at_, .int .i64 ca, .bool false, .bool ecn]) (t := 41) ?hr ?_; (case hd => rfl); (case hg => rfl); (case hr => first | (go_simp; done) | (go_simp; rfl)); intro ba hg w7 hbox hb; have n0_ := aW (GF.below (show GF w0 w _ g (GC s dv) s.d dv from o66) hb); have n1_ := aW hbox; clear HG hb hbox hg; have HG := n0_; have HA := n1_; clear n0_ n1_) | ((with_reducible refine gate_dst (N := 4) rfl ?_); refine box_event ?hg (N := 4) ?hd (cs := #[.int .i64 0, .int .i64 0, .int .i64 0]) (t := 67) ?hr ?_; (case hd => rfl); (case hg => rfl); (case hr => first | (go_simp; done) | (go_simp; rfl)); intro br hg w8 hbox hb; have n2_ := aW (show w.heap.size ≤ br from by rw [hg]; exact HG.out.kp.1); have n0_ := aW (GX.mk (GF.below (show GF w0 w _ g (GC s dv) s.d dv from o66) hb) (blk_below (g := ba) (o := .cells #[.int .i64 q, .int .i64 sz, .int .i64 at_, .int .i64 ca, .bool false, .bool ecn] 41 (0, 0)) HA.out hb) hbox n2_.out); clear HG HA hb hbox hg n2_; have HX := n0_; clear n0_; obtain ⟨ha0_, haf0_, ha1_, haf1_, ha2_, haf2_, ha3_, haf3_, ha4_, haf4_, ha5_, haf5_⟩ := bp6 HX.out.a; obtain ⟨hc0_, hcf0_, hc1_, hcf1_, hc2_, hcf2_, hc3_, hcf3_, hc4_, hcf4_, hc5_, hcf5_, hc6_, hcf6_⟩ := bp7 HX.out.f.blk; obtain ⟨hr0_, hrf0_, hr1_, hrf1_, hr2_, hrf2_⟩ := bp3 HX.out.r))
 have key : GX w0 w _ g ba br (GC s dv) s.d dv #[.int .i64 q, .int .i64 sz, .int .i64 at_, .int .i64 ca, .bool false, .bool ecn] #[.int .i64 0, .int .i64 0, .int .i64 0] := GX.setr (rs := #[.int .i64 0, .int .i64 0, .int .i64 0]) (GX.setr (rs := #[.int .i64 0, .int .i64 0, .int .i64 0]) (GX.setr (rs := #[.int .i64 0, .int .i64 0, .int .i64 0]) (HX.out) HWW.out 0 (.int .i64 0) rfl) HWW.out 1 (.int .i64 0) rfl) HWW.out 2 (.int .i64 0) rfl
 refine bodyPost_ret (results_row_tmp rfl _ _ br 67 #[.int .i64 0, .int .i64 0, .int .i64 0] (0, 0) _ rfl o100 Tryd.underlying67 rfl (by kernel_rfl)) rfl ?_
 exact ⟨rfl, ⟨dv, key.f.blk, key.f.ge, key.f.dn⟩, key.f.bel, key.f.kp⟩
set_option maxHeartbeats 16000000 in
set_option maxRecDepth 100000 in
theorem group_Grouper_Add.bad3 (k : Nat) (g : Nat) (s : GrS) (q sz at_ ca : Int) (late ecn : Bool) (w0 w : World) (hI : IsS85 w0 w g s) (hB : Below w0.heap.size w0 w) (h0 : late = false) (h1 : decide (sz < 0) = false) (h2 : decide (1500 < sz) = false) (h3 : decide (at_ < 0) = true) :
  Calls Tryd.prog 19 #[.pointer (some ⟨g, 0, none⟩), .agg #[.int .i64 q, .int .i64 sz, .int .i64 at_, .int .i64 ca, .bool late, .bool ecn]] w fun e w' => e = .returned (.tuple #[.agg #[.int .i64 0, .int .i64 0, .int .i64 0], .bool false]) ∧ IsS85 w0 w' g s ∧ Below w0.heap.size w0 w' ∧ KeepBut w w' g none := by
 have hu85 := Tryd.underlying85
 have hu82 := Tryd.underlying82
 have hu80 := Tryd.underlying80
 have hu41 := Tryd.underlying41
 have hu39 := Tryd.underlying39
 have hu67 := Tryd.underlying67
 have hpn54_eql : ∀ (a_ : Addr) (W_ : World), (Go.binOp .eql 54 (.pointer (some a_)) (.pointer none)).run Tryd.prog W_ = .ok (.bool false) W_ := fun _ _ => by kernel_rfl
 subst h0
 obtain ⟨dv, hg0⟩ := GF.of hI hB
 have HG := aW hg0
 have HWW := aW hB.size
 clear hg0 hI hB
 go_enter Tryd.func19, Tryd.ntmps19
 go_wp2_with (first | ((with_reducible refine gate_dst (N := 3) rfl ?_); refine box_event ?hg (N := 3) ?hd (cs := #[.int .i64 q, .int .i64 sz, .int .i64 at_, .int .i64 ca, .bool false, .bool ecn]) (t := 41) ?hr ?_; (case hd => rfl); (case hg => rfl); (case hr => first | (go_simp; done) | (go_simp; rfl)); intro ba hg w7 hbox hb; have n0_ := aW (GF.below (show GF w0 w _ g (GC s dv) s.d dv from o66) hb); have n1_ := aW hbox; clear HG hb hbox hg; have HG := n0_; have HA := n1_; clear n0_ n1_) | ((with_reducible refine gate_dst (N := 4) rfl ?_); refine box_event ?hg (N := 4) ?hd (cs := #[.int .i64 0, .int .i64 0, .int .i64 0]) (t := 67) ?hr ?_; (case hd => rfl); (case hg => rfl); (case hr => first | (go_simp; done) | (go_simp; rfl)); intro br hg w8 hbox hb; have n2_ := aW (show w.heap.size ≤ br from by rw [hg]; exact HG.out.kp.1); have n0_ := aW (GX.mk (GF.below (show GF w0 w _ g (GC s dv) s.d dv from o66) hb) (blk_below (g := ba) (o := .cells #[.int .i64 q, .int .i64 sz, .int .i64 at_, .int .i64 ca, .bool false, .bool ecn] 41 (0, 0)) HA.out hb) hbox n2_.out); clear HG HA hb hbox hg n2_; have HX := n0_; clear n0_; obtain ⟨ha0_, haf0_, ha1_, haf1_, ha2_, haf2_, ha3_, haf3_, ha4_, haf4_, ha5_, haf5_⟩ := bp6 HX.out.a; obtain ⟨hc0_, hcf0_, hc1_, hcf1_, hc2_, hcf2_, hc3_, hcf3_, hc4_, hcf4_, hc5_, hcf5_, hc6_, hcf6_⟩ := bp7 HX.out.f.blk; obtain ⟨hr0_, hrf0_, hr1_, hrf1_, hr2_, hrf2_⟩ := bp3 HX.out.r))
 have key : GX w0 w _ g ba br (GC s dv) s.d dv #[.int .i64 q, .int .i64 sz, .int .i64 at_, .int .i64 ca, .bool false, .bool ecn] #[.int .i64 0, .int .i64 0, .int .i64 0] := GX.setr (rs := #[.int .i64 0, .int .i64 0, .int .i64 0]) (GX.setr (rs := #[.int .i64 0, .int .i64 0, .int .i64 0]) (GX.setr (rs := #[.int .i64 0, .int .i64 0, .int .i64 0]) (HX.out) HWW.out 0 (.int .i64 0) rfl) HWW.out 1 (.int .i64 0) rfl) HWW.out 2 (.int .i64 0) rfl
 refine bodyPost_ret (results_row_tmp rfl _ _ br 67 #[.int .i64 0, .int .i64 0, .int .i64 0] (0, 0) _ rfl o100 Tryd.underlying67 rfl (by kernel_rfl)) rfl ?_
 exact ⟨rfl, ⟨dv, key.f.blk, key.f.ge, key.f.dn⟩, key.f.bel, key.f.kp⟩
set_option maxHeartbeats 16000000 in
set_option maxRecDepth 100000 in
theorem group_Grouper_Add.bad4 (k : Nat) (g : Nat) (s : GrS) (q sz at_ ca : Int) (late ecn : Bool) (w0 w : World) (hI : IsS85 w0 w g s) (hB : Below w0.heap.size w0 w) (h0 : late = false) (h1 : decide (sz < 0) = false) (h2 : decide (1500 < sz) = false) (h3 : decide (at_ < 0) = false) (h4 : decide (1125899906842624 < at_) = true) :
  Calls Tryd.prog 19 #[.pointer (some ⟨g, 0, none⟩), .agg #[.int .i64 q, .int .i64 sz, .int .i64 at_, .int .i64 ca, .bool late, .bool ecn]] w fun e w' => e = .returned (.tuple #[.agg #[.int .i64 0, .int .i64 0, .int .i64 0], .bool false]) ∧ IsS85 w0 w' g s ∧ Below w0.heap.size w0 w' ∧ KeepBut w w' g none := by
 have hu85 := Tryd.underlying85
 have hu82 := Tryd.underlying82
 have hu80 := Tryd.underlying80
 have hu41 := Tryd.underlying41
 have hu39 := Tryd.underlying39
 have hu67 := Tryd.underlying67
 have hpn54_eql : ∀ (a_ : Addr) (W_ : World), (Go.binOp .eql 54 (.pointer (some a_)) (.pointer none)).run Tryd.prog W_ = .ok (.bool false) W_ := fun _ _ => by kernel_rfl
 subst h0
 obtain ⟨dv, hg0⟩ := GF.of hI hB
 have HG := aW hg0
 have HWW := aW hB.size
 clear hg0 hI hB
 go_enter Tryd.func19, Tryd.ntmps19
 go_wp2_with (first | ((with_reducible refine gate_dst (N := 3) rfl ?_); refine box_event ?hg (N := 3) ?hd (cs := #[.int .i64 q, .int .i64 sz, .int .i64 at_, .int .i64 ca, .bool false, .bool ecn]) (t := 41) ?hr ?_; (case hd => rfl); (case hg => rfl); (case hr => first | (go_simp; done) | (go_simp; rfl)); intro ba hg w7 hbox hb; have n0_ := aW (GF.below (show GF w0 w _ g (GC s dv) s.d dv from o66) hb); have n1_ := aW hbox; clear HG hb hbox hg; have HG := n0_; have HA := n1_; clear n0_ n1_) | ((with_reducible refine gate_dst (N := 4) rfl ?_); refine box_event ?hg (N := 4) ?hd (cs := #[.int .i64 0, .int .i64 0, .int .i64 0]) (t := 67) ?hr ?_; (case hd => rfl); (case hg => rfl); (case hr => first | (go_simp; done) | (go_simp; rfl)); intro br hg w8 hbox hb; have n2_ := aW (show w.heap.size ≤ br from by rw [hg]; exact HG.out.kp.1); have n0_ := aW (GX.mk (GF.below (show GF w0 w _ g (GC s dv) s.d dv from o66) hb) (blk_below (g := ba) (o := .cells #[.int .i64 q, .int .i64 sz, .int .i64 at_, .int .i64 ca, .bool false, .bool ecn] 41 (0, 0)) HA.out hb) hbox n2_.out); clear HG HA hb hbox hg n2_; have HX := n0_; clear n0_; obtain ⟨ha0_, haf0_, ha1_, haf1_, ha2_, haf2_, ha3_, haf3_, ha4_, haf4_, ha5_, haf5_⟩ := bp6 HX.out.a; obtain ⟨hc0_, hcf0_, hc1_, hcf1_, hc2_, hcf2_, hc3_, hcf3_, hc4_, hcf4_, hc5_, hcf5_, hc6_, hcf6_⟩ := bp7 HX.out.f.blk; obtain ⟨hr0_, hrf0_, hr1_, hrf1_, hr2_, hrf2_⟩ := bp3 HX.out.r))
 have key : GX w0 w _ g ba br (GC s dv) s.d dv #[.int .i64 q, .int .i64 sz, .int .i64 at_, .int .i64 ca, .bool false, .bool ecn] #[.int .i64 0, .int .i64 0, .int .i64 0] := GX.setr (rs := #[.int .i64 0, .int .i64 0, .int .i64 0]) (GX.setr (rs := #[.int .i64 0, .int .i64 0, .int .i64 0]) (GX.setr (rs := #[.int .i64 0, .int .i64 0, .int .i64 0]) (HX.out) HWW.out 0 (.int .i64 0) rfl) HWW.out 1 (.int .i64 0) rfl) HWW.out 2 (.int .i64 0) rfl
 refine bodyPost_ret (results_row_tmp rfl _ _ br 67 #[.int .i64 0, .int .i64 0, .int .i64 0] (0, 0) _ rfl o100 Tryd.underlying67 rfl (by kernel_rfl)) rfl ?_
 exact ⟨rfl, ⟨dv, key.f.blk, key.f.ge, key.f.dn⟩, key.f.bel, key.f.kp⟩
set_option maxHeartbeats 16000000 in
set_option maxRecDepth 100000 in
theorem group_Grouper_Add.bad5 (k : Nat) (g : Nat) (s : GrS) (q sz at_ ca : Int) (late ecn : Bool) (w0 w : World) (hI : IsS85 w0 w g s) (hB : Below w0.heap.size w0 w) (h0 : late = false) (h1 : decide (sz < 0) = false) (h2 : decide (1500 < sz) = false) (h3 : decide (at_ < 0) = false) (h4 : decide (1125899906842624 < at_) = false) (h5 : decide (ca < -1125899906842624) = true) :
  Calls Tryd.prog 19 #[.pointer (some ⟨g, 0, none⟩), .agg #[.int .i64 q, .int .i64 sz, .int .i64 at_, .int .i64 ca, .bool late, .bool ecn]] w fun e w' => e = .returned (.tuple #[.agg #[.int .i64 0, .int .i64 0, .int .i64 0], .bool false]) ∧ IsS85 w0 w' g s ∧ Below w0.heap.size w0 w' ∧ KeepBut w w' g none := by
 have hu85 := Tryd.underlying85
 have hu82 := Tryd.underlying82
 have hu80 := Tryd.underlying80
 have hu41 := Tryd.underlying41
 have hu39 := Tryd.underlying39
 have hu67 := Tryd.underlying67
 have hpn54_eql : ∀ (a_ : Addr) (W_ : World), (Go.binOp .eql 54 (.pointer (some a_)) (.pointer none)).run Tryd.prog W_ = .ok (.bool false) W_ := fun _ _ => by kernel_rfl
 subst h0
 obtain ⟨dv, hg0⟩ := GF.of hI hB
 have HG := aW hg0
 have HWW := aW hB.size
 clear hg0 hI hB
 go_enter Tryd.func19, Tryd.ntmps19
 go_wp2_with (first | ((with_reducible refine gate_dst (N := 3) rfl ?_); refine box_event ?hg (N := 3) ?hd (cs := #[.int .i64 q, .int .i64 sz, .int .i64 at_, .int .i64 ca, .bool false, .bool ecn]) (t := 41) ?hr ?_; (case hd => rfl); (case hg => rfl); (case hr => first | (go_simp; done) | (go_simp; rfl)); intro ba hg w7 hbox hb; have n0_ := aW (GF.below (show GF w0 w _ g (GC s dv) s.d dv from o66) hb); have n1_ := aW hbox; clear HG hb hbox hg; have HG := n0_; have HA := n1_; clear n0_ n1_) | ((with_reducible refine gate_dst (N := 4) rfl ?_); refine box_event ?hg (N := 4) ?hd (cs := #[.int .i64 0, .int .i64 0, .int .i64 0]) (t := 67) ?hr ?_; (case hd => rfl); (case hg => rfl); (case hr => first | (go_simp; done) | (go_simp; rfl)); intro br hg w8 hbox hb; have n2_ := aW (show w.heap.size ≤ br from by rw [hg]; exact HG.out.kp.1); have n0_ := aW (GX.mk (GF.below (show GF w0 w _ g (GC s dv) s.d dv from o66) hb) (blk_below (g := ba) (o := .cells #[.int .i64 q, .int .i64 sz, .int .i64 at_, .int .i64 ca, .bool false, .bool ecn] 41 (0, 0)) HA.out hb) hbox n2_.out); clear HG HA hb hbox hg n2_; have HX := n0_; clear n0_; obtain ⟨ha0_, haf0_, ha1_, haf1_, ha2_, haf2_, ha3_, haf3_, ha4_, haf4_, ha5_, haf5_⟩ := bp6 HX.out.a; obtain ⟨hc0_, hcf0_, hc1_, hcf1_, hc2_, hcf2_, hc3_, hcf3_, hc4_, hcf4_, hc5_, hcf5_, hc6_, hcf6_⟩ := bp7 HX.out.f.blk; obtain ⟨hr0_, hrf0_, hr1_, hrf1_, hr2_, hrf2_⟩ := bp3 HX.out.r))
 have key : GX w0 w _ g ba br (GC s dv) s.d dv #[.int .i64 q, .int .i64 sz, .int .i64 at_, .int .i64 ca, .bool false, .bool ecn] #[.int .i64 0, .int .i64 0, .int .i64 0] := GX.setr (rs := #[.int .i64 0, .int .i64 0, .int .i64 0]) (GX.setr (rs := #[.int .i64 0, .int .i64 0, .int .i64 0]) (GX.setr (rs := #[.int .i64 0, .int .i64 0, .int .i64 0]) (HX.out) HWW.out 0 (.int .i64 0) rfl) HWW.out 1 (.int .i64 0) rfl) HWW.out 2 (.int .i64 0) rfl
 refine bodyPost_ret (results_row_tmp rfl _ _ br 67 #[.int .i64 0, .int .i64 0, .int .i64 0] (0, 0) _ rfl o100 Tryd.underlying67 rfl (by kernel_rfl)) rfl ?_
 exact ⟨rfl, ⟨dv, key.f.blk, key.f.ge, key.f.dn⟩, key.f.bel, key.f.kp⟩
set_option maxHeartbeats 16000000 in
set_option maxRecDepth 100000 in
theorem group_Grouper_Add.bad6 (k : Nat) (g : Nat) (s : GrS) (q sz at_ ca : Int) (late ecn : Bool) (w0 w : World) (hI : IsS85 w0 w g s) (hB : Below w0.heap.size w0 w) (h0 : late = false) (h1 : decide (sz < 0) = false) (h2 : decide (1500 < sz) = false) (h3 : decide (at_ < 0) = false) (h4 : decide (1125899906842624 < at_) = false) (h5 : decide (ca < -1125899906842624) = false) (h6 : decide (1125899906842624 < ca) = true) :
  Calls Tryd.prog 19 #[.pointer (some ⟨g, 0, none⟩), .agg #[.int .i64 q, .int .i64 sz, .int .i64 at_, .int .i64 ca, .bool late, .bool ecn]] w fun e w' => e = .returned (.tuple #[.agg #[.int .i64 0, .int .i64 0, .int .i64 0], .bool false]) ∧ IsS85 w0 w' g s ∧ Below w0.heap.size w0 w' ∧ KeepBut w w' g none := by
 have hu85 := Tryd.underlying85
 have hu82 := Tryd.underlying82
 have hu80 := Tryd.underlying80
 have hu41 := Tryd.underlying41
 have hu39 := Tryd.underlying39
 have hu67 := Tryd.underlying67
 have hpn54_eql : ∀ (a_ : Addr) (W_ : World), (Go.binOp .eql 54 (.pointer (some a_)) (.pointer none)).run Tryd.prog W_ = .ok (.bool false) W_ := fun _ _ => by kernel_rfl
 subst h0
 obtain ⟨dv, hg0⟩ := GF.of hI hB
 have HG := aW hg0
 have HWW := aW hB.size
 clear hg0 hI hB
 go_enter Tryd.func19, Tryd.ntmps19
 go_wp2_with (first | ((with_reducible refine gate_dst (N := 3) rfl ?_); refine box_event ?hg (N := 3) ?hd (cs := #[.int .i64 q, .int .i64 sz, .int .i64 at_, .int .i64 ca, .bool false, .bool ecn]) (t := 41) ?hr ?_; (case hd => rfl); (case hg => rfl); (case hr => first | (go_simp; done) | (go_simp; rfl)); intro ba hg w7 hbox hb; have n0_ := aW (GF.below (show GF w0 w _ g (GC s dv) s.d dv from o66) hb); have n1_ := aW hbox; clear HG hb hbox hg; have HG := n0_; have HA := n1_; clear n0_ n1_) | ((with_reducible refine gate_dst (N := 4) rfl ?_); refine box_event ?hg (N := 4) ?hd (cs := #[.int .i64 0, .int .i64 0, .int .i64 0]) (t := 67) ?hr ?_; (case hd => rfl); (case hg => rfl); (case hr => first | (go_simp; done) | (go_simp; rfl)); intro br hg w8 hbox hb; have n2_ := aW (show w.heap.size ≤ br from by rw [hg]; exact HG.out.kp.1); have n0_ := aW (GX.mk (GF.below (show GF w0 w _ g (GC s dv) s.d dv from o66) hb) (blk_below (g := ba) (o := .cells #[.int .i64 q, .int .i64 sz, .int .i64 at_, .int .i64 ca, .bool false, .bool ecn] 41 (0, 0)) HA.out hb) hbox n2_.out); clear HG HA hb hbox hg n2_; have HX := n0_; clear n0_; obtain ⟨ha0_, haf0_, ha1_, haf1_, ha2_, haf2_, ha3_, haf3_, ha4_, haf4_, ha5_, haf5_⟩ := bp6 HX.out.a; obtain ⟨hc0_, hcf0_, hc1_, hcf1_, hc2_, hcf2_, hc3_, hcf3_, hc4_, hcf4_, hc5_, hcf5_, hc6_, hcf6_⟩ := bp7 HX.out.f.blk; obtain ⟨hr0_, hrf0_, hr1_, hrf1_, hr2_, hrf2_⟩ := bp3 HX.out.r))
 have key : GX w0 w _ g ba br (GC s dv) s.d dv #[.int .i64 q, .int .i64 sz, .int .i64 at_, .int .i64 ca, .bool false, .bool ecn] #[.int .i64 0, .int .i64 0, .int .i64 0] := GX.setr (rs := #[.int .i64 0, .int .i64 0, .int .i64 0]) (GX.setr (rs := #[.int .i64 0, .int .i64 0, .int .i64 0]) (GX.setr (rs := #[.int .i64 0, .int .i64 0, .int .i64 0]) (HX.out) HWW.out 0 (.int .i64 0) rfl) HWW.out 1 (.int .i64 0) rfl) HWW.out 2 (.int .i64 0) rfl
 refine bodyPost_ret (results_row_tmp rfl _ _ br 67 #[.int .i64 0, .int .i64 0, .int .i64 0] (0, 0) _ rfl o100 Tryd.underlying67 rfl (by kernel_rfl)) rfl ?_
 exact ⟨rfl, ⟨dv, key.f.blk, key.f.ge, key.f.dn⟩, key.f.bel, key.f.kp⟩
theorem GX.begun {w0 w W W1 : World} {g ba br : Nat} {cs av rs : Array Value} {d : Option (Int × Int × Int × Int)} {dv : Value} {s : GrS} (h : GX w0 w W g ba br cs d dv av rs) (hi : IsS85 w0 W1 g s) (hb : Below w0.heap.size w0 W1) (hk : KeepBut W W1 g none) : ∃ dv1, GX w0 w W1 g ba br (GC s dv1) s.d dv1 av rs := by
 obtain ⟨dv1, h1, h2, h3⟩ := hi
 exact ⟨dv1, ⟨h1, h2, h.f.lt, h3, hb, h.f.kp.trans hk (.inl rfl)⟩, kb_at hk h.a (bkt h.a h.f.blk (by decide)), kb_at hk h.r (bkt h.r h.f.blk (by decide)), h.rn⟩
set_option maxHeartbeats 16000000 in
set_option maxRecDepth 100000 in
theorem group_Grouper_Add.opens (k : Nat) (g : Nat) (s : GrS) (q sz at_ ca : Int) (late ecn : Bool) (w0 w : World) (hI : IsS85 w0 w g s) (hB : Below w0.heap.size w0 w) (h0 : late = false) (h1 : decide (sz < 0) = false) (h2 : decide (1500 < sz) = false) (h3 : decide (at_ < 0) = false) (h4 : decide (1125899906842624 < at_) = false) (h5 : decide (ca < -1125899906842624) = false) (h6 : decide (1125899906842624 < ca) = false) (h7 : s.o = false) :
  Calls Tryd.prog 19 #[.pointer (some ⟨g, 0, none⟩), .agg #[.int .i64 q, .int .i64 sz, .int .i64 at_, .int .i64 ca, .bool late, .bool ecn]] w fun e w' => e = .returned (.tuple #[.agg #[.int .i64 0, .int .i64 0, .int .i64 0], .bool false]) ∧ IsS85 w0 w' g ⟨at_, at_, ca, sz, true, s.d, s.b⟩ ∧ Below w0.heap.size w0 w' ∧ KeepBut w w' g none := by
 have hu85 := Tryd.underlying85
 have hu82 := Tryd.underlying82
 have hu80 := Tryd.underlying80
 have hu41 := Tryd.underlying41
 have hu39 := Tryd.underlying39
 have hu67 := Tryd.underlying67
 have hpn54_eql : ∀ (a_ : Addr) (W_ : World), (Go.binOp .eql 54 (.pointer (some a_)) (.pointer none)).run Tryd.prog W_ = .ok (.bool false) W_ := fun _ _ => by kernel_rfl
 subst h0
 obtain ⟨dv, hg0⟩ := GF.of hI hB
 have HG := aW hg0
 have HWW := aW hB.size
 clear hg0 hI hB
 go_enter Tryd.func19, Tryd.ntmps19
 go_wp2_with (first | ((with_reducible refine gate_dst (N := 3) rfl ?_); refine box_event ?hg (N := 3) ?hd (cs := #[.int .i64 q, .int .i64 sz, .int .i64 at_, .int .i64 ca, .bool false, .bool ecn]) (t := 41) ?hr ?_; (case hd => rfl); (case hg => rfl); (case hr => first | (go_simp; done) | (go_simp; rfl)); intro ba hg w7 hbox hb; have n0_ := aW (GF.below (show GF w0 w _ g (GC s dv) s.d dv from o66) hb); have n1_ := aW hbox; clear HG hb hbox hg; have HG := n0_; have HA := n1_; clear n0_ n1_) | ((with_reducible refine gate_dst (N := 4) rfl ?_); refine box_event ?hg (N := 4) ?hd (cs := #[.int .i64 0, .int .i64 0, .int .i64 0]) (t := 67) ?hr ?_; (case hd => rfl); (case hg => rfl); (case hr => first | (go_simp; done) | (go_simp; rfl)); intro br hg w8 hbox hb; have n2_ := aW (show w.heap.size ≤ br from by rw [hg]; exact HG.out.kp.1); have n0_ := aW (GX.mk (GF.below (show GF w0 w _ g (GC s dv) s.d dv from o66) hb) (blk_below (g := ba) (o := .cells #[.int .i64 q, .int .i64 sz, .int .i64 at_, .int .i64 ca, .bool false, .bool ecn] 41 (0, 0)) HA.out hb) hbox n2_.out); clear HG HA hb hbox hg n2_; have HX := n0_; clear n0_; obtain ⟨ha0_, haf0_, ha1_, haf1_, ha2_, haf2_, ha3_, haf3_, ha4_, haf4_, ha5_, haf5_⟩ := bp6 HX.out.a; obtain ⟨hc0_, hcf0_, hc1_, hcf1_, hc2_, hcf2_, hc3_, hcf3_, hc4_, hcf4_, hc5_, hcf5_, hc6_, hcf6_⟩ := bp7 HX.out.f.blk; obtain ⟨hr0_, hrf0_, hr1_, hrf1_, hr2_, hrf2_⟩ := bp3 HX.out.r; rw [h7] at hc4_) | (go_at_call 31; (with_reducible refine (group_Grouper_begins.calls g s q sz at_ ca false ecn w0 _ ?side1 ?side2).mono ?_); (case side1 => exact (fun (h : GX w0 w _ g ba br (GC s dv) s.d dv #[.int .i64 q, .int .i64 sz, .int .i64 at_, .int .i64 ca, .bool false, .bool ecn] #[.int .i64 0, .int .i64 0, .int .i64 0]) => (⟨dv, h.f.blk, h.f.ge, h.f.dn⟩ : IsS85 w0 _ g s)) (show GX w0 w _ g ba br (GC s dv) s.d dv #[.int .i64 q, .int .i64 sz, .int .i64 at_, .int .i64 ca, .bool false, .bool ecn] #[.int .i64 0, .int .i64 0, .int .i64 0] from o65)); (case side2 => exact (fun (h : GX w0 w _ g ba br (GC s dv) s.d dv #[.int .i64 q, .int .i64 sz, .int .i64 at_, .int .i64 ca, .bool false, .bool ecn] #[.int .i64 0, .int .i64 0, .int .i64 0]) => h.f.bel) (show GX w0 w _ g ba br (GC s dv) s.d dv #[.int .i64 q, .int .i64 sz, .int .i64 at_, .int .i64 ca, .bool false, .bool ecn] #[.int .i64 0, .int .i64 0, .int .i64 0] from o65)); rintro e w9 ⟨rfl, hi, hb, hk⟩; obtain ⟨dv1, hx1⟩ := GX.begun (show GX w0 w _ g ba br (GC s dv) s.d dv #[.int .i64 q, .int .i64 sz, .int .i64 at_, .int .i64 ca, .bool false, .bool ecn] #[.int .i64 0, .int .i64 0, .int .i64 0] from o65) hi hb hk; clear HX hi hb hk; have HX := aW hx1; clear hx1; obtain ⟨hq0_, hqf0_, hq1_, hqf1_, hq2_, hqf2_⟩ := bp3 HX.out.r))
 have key : GX w0 w _ g ba br (GC (⟨at_, at_, ca, sz, true, s.d, s.b⟩ : GrS) dv1) s.d dv1 #[.int .i64 q, .int .i64 sz, .int .i64 at_, .int .i64 ca, .bool false, .bool ecn] #[.int .i64 0, .int .i64 0, .int .i64 0] := GX.setr (rs := #[.int .i64 0, .int .i64 0, .int .i64 0]) (GX.setr (rs := #[.int .i64 0, .int .i64 0, .int .i64 0]) (GX.setr (rs := #[.int .i64 0, .int .i64 0, .int .i64 0]) HX.out HWW.out 0 (.int .i64 0) rfl) HWW.out 1 (.int .i64 0) rfl) HWW.out 2 (.int .i64 0) rfl
 refine bodyPost_ret (results_row_tmp rfl _ _ br 67 #[.int .i64 0, .int .i64 0, .int .i64 0] (0, 0) _ rfl key.r Tryd.underlying67 rfl (by kernel_rfl)) rfl ?_
 exact ⟨rfl, ⟨dv1, key.f.blk, key.f.ge, key.f.dn⟩, key.f.bel, key.f.kp⟩
set_option maxHeartbeats 16000000 in
set_option maxRecDepth 100000 in
theorem group_Grouper_Add.early (k : Nat) (g : Nat) (s : GrS) (q sz at_ ca : Int) (late ecn : Bool) (w0 w : World) (hI : IsS85 w0 w g s) (hB : Below w0.heap.size w0 w) (h0 : late = false) (h1 : decide (sz < 0) = false) (h2 : decide (1500 < sz) = false) (h3 : decide (at_ < 0) = false) (h4 : decide (1125899906842624 < at_) = false) (h5 : decide (ca < -1125899906842624) = false) (h6 : decide (1125899906842624 < ca) = false) (h7 : s.o = true) (h8 : decide (at_ < s.f) = true) :
  Calls Tryd.prog 19 #[.pointer (some ⟨g, 0, none⟩), .agg #[.int .i64 q, .int .i64 sz, .int .i64 at_, .int .i64 ca, .bool late, .bool ecn]] w fun e w' => e = .returned (.tuple #[.agg #[.int .i64 0, .int .i64 0, .int .i64 0], .bool false]) ∧ IsS85 w0 w' g s ∧ Below w0.heap.size w0 w' ∧ KeepBut w w' g none := by
 have hu85 := Tryd.underlying85
 have hu82 := Tryd.underlying82
 have hu80 := Tryd.underlying80
 have hu41 := Tryd.underlying41
 have hu39 := Tryd.underlying39
 have hu67 := Tryd.underlying67
 have hpn54_eql : ∀ (a_ : Addr) (W_ : World), (Go.binOp .eql 54 (.pointer (some a_)) (.pointer none)).run Tryd.prog W_ = .ok (.bool false) W_ := fun _ _ => by kernel_rfl
 subst h0
 obtain ⟨dv, hg0⟩ := GF.of hI hB
 have HG := aW hg0
 have HWW := aW hB.size
 clear hg0 hI hB
 go_enter Tryd.func19, Tryd.ntmps19
 go_wp2_with (first | ((with_reducible refine gate_dst (N := 3) rfl ?_); refine box_event ?hg (N := 3) ?hd (cs := #[.int .i64 q, .int .i64 sz, .int .i64 at_, .int .i64 ca, .bool false, .bool ecn]) (t := 41) ?hr ?_; (case hd => rfl); (case hg => rfl); (case hr => first | (go_simp; done) | (go_simp; rfl)); intro ba hg w7 hbox hb; have n0_ := aW (GF.below (show GF w0 w _ g (GC s dv) s.d dv from o66) hb); have n1_ := aW hbox; clear HG hb hbox hg; have HG := n0_; have HA := n1_; clear n0_ n1_) | ((with_reducible refine gate_dst (N := 4) rfl ?_); refine box_event ?hg (N := 4) ?hd (cs := #[.int .i64 0, .int .i64 0, .int .i64 0]) (t := 67) ?hr ?_; (case hd => rfl); (case hg => rfl); (case hr => first | (go_simp; done) | (go_simp; rfl)); intro br hg w8 hbox hb; have n2_ := aW (show w.heap.size ≤ br from by rw [hg]; exact HG.out.kp.1); have n0_ := aW (GX.mk (GF.below (show GF w0 w _ g (GC s dv) s.d dv from o66) hb) (blk_below (g := ba) (o := .cells #[.int .i64 q, .int .i64 sz, .int .i64 at_, .int .i64 ca, .bool false, .bool ecn] 41 (0, 0)) HA.out hb) hbox n2_.out); clear HG HA hb hbox hg n2_; have HX := n0_; clear n0_; obtain ⟨ha0_, haf0_, ha1_, haf1_, ha2_, haf2_, ha3_, haf3_, ha4_, haf4_, ha5_, haf5_⟩ := bp6 HX.out.a; obtain ⟨hc0_, hcf0_, hc1_, hcf1_, hc2_, hcf2_, hc3_, hcf3_, hc4_, hcf4_, hc5_, hcf5_, hc6_, hcf6_⟩ := bp7 HX.out.f.blk; obtain ⟨hr0_, hrf0_, hr1_, hrf1_, hr2_, hrf2_⟩ := bp3 HX.out.r; rw [h7] at hc4_))
 clear ha0_ ha1_ ha2_ ha3_ ha4_ ha5_ haf0_ haf1_ haf2_ haf3_ haf4_ haf5_ hc0_ hc1_ hc2_ hc3_ hc4_ hc5_ hc6_ hcf0_ hcf1_ hcf2_ hcf3_ hcf4_ hcf5_ hcf6_ hr0_ hr1_ hr2_ hrf0_ hrf1_ hrf2_
 replace HX := aW (GX.below HX.out (below_drew bR))
 refine start_ (n := 11) (S := fun w' => w'.cell? ⟨g, 0, none⟩ = some (.int .i64 s.f) ∧ w'.cell? ⟨ba, 2, none⟩ = some (.int .i64 at_)) (ds := []) (bl 11 0) (by kernel_rfl) rfl rfl ⟨(blk_cell HX.out.f.blk 0).trans rfl, (blk_cell HX.out.a 2).trans rfl⟩ (fun hHeld => ?_); refine with_tabW group_Grouper_Add.tab6 group_Grouper_Add.bits6 (fun HT_ HW_ => ?_)
 generalize World.drew w8 = w9 at HX hHeld ⊢
 refine pq_ 0 61 (bl 11 1) HT_ ?_
 refine pq_ 1 62 (bl 11 3) HT_ ?_
 refine tq_ 2 63 (bl 11 7) HT_ HW_ hHeld ?_ (hr := by rintro w' ⟨s0_, s1_⟩; go_simp; with_reducible rfl)
 refine pq_ 3 64 (bl 11 15) HT_ ?_
 refine pq_ 4 65 (bl 11 31) HT_ ?_
 refine pq_ 5 66 (bl 11 63) HT_ ?_
 refine pq_ 6 67 (bl 11 127) HT_ ?_
 refine pq_ 7 68 (bl 11 255) HT_ ?_
 refine tq_ 8 69 (bl 11 511) HT_ HW_ hHeld ?_ (hr := by rintro w' ⟨s0_, s1_⟩; go_simp; with_reducible rfl)
 refine pq_ 9 70 (bl 11 1023) HT_ ?_
 refine pq_ 10 60 (bl 11 2047) HT_ ?_
 refine done_ (done_of HT_.out (by kernel_rfl)) ?_
 clear hHeld HT_ HW_
 obtain ⟨hq0_, hqf0_, hq1_, hqf1_, hq2_, hqf2_⟩ := bp3 HX.out.r
 go_wp2
 have key : GX w0 w _ g ba br (GC s dv) s.d dv #[.int .i64 q, .int .i64 sz, .int .i64 at_, .int .i64 ca, .bool false, .bool ecn] #[.int .i64 0, .int .i64 0, .int .i64 0] := GX.setr (rs := #[.int .i64 0, .int .i64 0, .int .i64 0]) (GX.setr (rs := #[.int .i64 0, .int .i64 0, .int .i64 0]) (GX.setr (rs := #[.int .i64 0, .int .i64 0, .int .i64 0]) (HX.out) HWW.out 0 (.int .i64 0) rfl) HWW.out 1 (.int .i64 0) rfl) HWW.out 2 (.int .i64 0) rfl
 refine bodyPost_ret (results_row_tmp rfl _ _ br 67 #[.int .i64 0, .int .i64 0, .int .i64 0] (0, 0) _ rfl o100 Tryd.underlying67 rfl (by kernel_rfl)) rfl ?_
 exact ⟨rfl, ⟨dv, key.f.blk, key.f.ge, key.f.dn⟩, key.f.bel, key.f.kp⟩
set_option maxHeartbeats 16000000 in
set_option maxRecDepth 100000 in
theorem group_Grouper_Add.goes (k : Nat) (g : Nat) (s : GrS) (q sz at_ ca : Int) (late ecn : Bool) (w0 w : World) (hI : IsS85 w0 w g s) (hB : Below w0.heap.size w0 w) (h0 : late = false) (h1 : decide (sz < 0) = false) (h2 : decide (1500 < sz) = false) (h3 : decide (at_ < 0) = false) (h4 : decide (1125899906842624 < at_) = false) (h5 : decide (ca < -1125899906842624) = false) (h6 : decide (1125899906842624 < ca) = false) (h7 : s.o = true) (h8 : decide (at_ < s.f) = false) (h9 : decide (wrap64 (at_ - s.f) ≤ s.b) = true) :
  Calls Tryd.prog 19 #[.pointer (some ⟨g, 0, none⟩), .agg #[.int .i64 q, .int .i64 sz, .int .i64 at_, .int .i64 ca, .bool late, .bool ecn]] w fun e w' => e = .returned (.tuple #[.agg #[.int .i64 0, .int .i64 0, .int .i64 0], .bool false]) ∧ IsS85 w0 w' g ⟨s.f, mx s.l at_, mx s.c ca, wrap64 (s.n + sz), s.o, s.d, s.b⟩ ∧ Below w0.heap.size w0 w' ∧ KeepBut w w' g none := by
 have hu85 := Tryd.underlying85
 have hu82 := Tryd.underlying82
 have hu80 := Tryd.underlying80
 have hu41 := Tryd.underlying41
 have hu39 := Tryd.underlying39
 have hu67 := Tryd.underlying67
 have hpn54_eql : ∀ (a_ : Addr) (W_ : World), (Go.binOp .eql 54 (.pointer (some a_)) (.pointer none)).run Tryd.prog W_ = .ok (.bool false) W_ := fun _ _ => by kernel_rfl
 subst h0
 obtain ⟨dv, hg0⟩ := GF.of hI hB
 have HG := aW hg0
 have HWW := aW hB.size
 clear hg0 hI hB
 go_enter Tryd.func19, Tryd.ntmps19
 go_wp2_with (first | ((with_reducible refine gate_dst (N := 3) rfl ?_); refine box_event ?hg (N := 3) ?hd (cs := #[.int .i64 q, .int .i64 sz, .int .i64 at_, .int .i64 ca, .bool false, .bool ecn]) (t := 41) ?hr ?_; (case hd => rfl); (case hg => rfl); (case hr => first | (go_simp; done) | (go_simp; rfl)); intro ba hg w7 hbox hb; have n0_ := aW (GF.below (show GF w0 w _ g (GC s dv) s.d dv from o66) hb); have n1_ := aW hbox; clear HG hb hbox hg; have HG := n0_; have HA := n1_; clear n0_ n1_) | ((with_reducible refine gate_dst (N := 4) rfl ?_); refine box_event ?hg (N := 4) ?hd (cs := #[.int .i64 0, .int .i64 0, .int .i64 0]) (t := 67) ?hr ?_; (case hd => rfl); (case hg => rfl); (case hr => first | (go_simp; done) | (go_simp; rfl)); intro br hg w8 hbox hb; have n2_ := aW (show w.heap.size ≤ br from by rw [hg]; exact HG.out.kp.1); have n0_ := aW (GX.mk (GF.below (show GF w0 w _ g (GC s dv) s.d dv from o66) hb) (blk_below (g := ba) (o := .cells #[.int .i64 q, .int .i64 sz, .int .i64 at_, .int .i64 ca, .bool false, .bool ecn] 41 (0, 0)) HA.out hb) hbox n2_.out); clear HG HA hb hbox hg n2_; have HX := n0_; clear n0_; obtain ⟨ha0_, haf0_, ha1_, haf1_, ha2_, haf2_, ha3_, haf3_, ha4_, haf4_, ha5_, haf5_⟩ := bp6 HX.out.a; obtain ⟨hc0_, hcf0_, hc1_, hcf1_, hc2_, hcf2_, hc3_, hcf3_, hc4_, hcf4_, hc5_, hcf5_, hc6_, hcf6_⟩ := bp7 HX.out.f.blk; obtain ⟨hr0_, hrf0_, hr1_, hrf1_, hr2_, hrf2_⟩ := bp3 HX.out.r; rw [h7] at hc4_))
 clear ha0_ ha1_ ha2_ ha3_ ha4_ ha5_ haf0_ haf1_ haf2_ haf3_ haf4_ haf5_ hc0_ hc1_ hc2_ hc3_ hc4_ hc5_ hc6_ hcf0_ hcf1_ hcf2_ hcf3_ hcf4_ hcf5_ hcf6_ hr0_ hr1_ hr2_ hrf0_ hrf1_ hrf2_
 replace HX := aW (GX.below HX.out (below_drew bR))
 refine start_ (n := 11) (S := fun w' => w'.cell? ⟨g, 0, none⟩ = some (.int .i64 s.f) ∧ w'.cell? ⟨ba, 2, none⟩ = some (.int .i64 at_)) (ds := []) (bl 11 0) (by kernel_rfl) rfl rfl ⟨(blk_cell HX.out.f.blk 0).trans rfl, (blk_cell HX.out.a 2).trans rfl⟩ (fun hHeld => ?_); refine with_tabW group_Grouper_Add.tab6 group_Grouper_Add.bits6 (fun HT_ HW_ => ?_)
 generalize World.drew w8 = w9 at HX hHeld ⊢
 refine pq_ 0 61 (bl 11 1) HT_ ?_
 refine pq_ 1 62 (bl 11 3) HT_ ?_
 refine tq_ 2 63 (bl 11 7) HT_ HW_ hHeld ?_ (hr := by rintro w' ⟨s0_, s1_⟩; go_simp; with_reducible rfl)
 refine pq_ 3 64 (bl 11 15) HT_ ?_
 refine pq_ 4 65 (bl 11 31) HT_ ?_
 refine pq_ 5 66 (bl 11 63) HT_ ?_
 refine pq_ 6 67 (bl 11 127) HT_ ?_
 refine pq_ 7 68 (bl 11 255) HT_ ?_
 refine tq_ 8 69 (bl 11 511) HT_ HW_ hHeld ?_ (hr := by rintro w' ⟨s0_, s1_⟩; go_simp; with_reducible rfl)
 refine pq_ 9 70 (bl 11 1023) HT_ ?_
 refine pq_ 10 60 (bl 11 2047) HT_ ?_
 refine done_ (done_of HT_.out (by kernel_rfl)) ?_
 clear hHeld HT_ HW_
 try go_wp2
 replace HX := aW (GX.below HX.out (below_drew bR))
 refine start_ (n := 16) (S := fun w' => w'.cell? ⟨g, 0, none⟩ = some (.int .i64 s.f) ∧ w'.cell? ⟨g, 6, none⟩ = some (.int .i64 s.b) ∧ w'.cell? ⟨ba, 2, none⟩ = some (.int .i64 at_)) (ds := []) (bl 16 0) (by kernel_rfl) rfl rfl ⟨(blk_cell HX.out.f.blk 0).trans rfl, (blk_cell HX.out.f.blk 6).trans rfl, (blk_cell HX.out.a 2).trans rfl⟩ (fun hHeld => ?_); refine with_tabW group_Grouper_Add.tab8 group_Grouper_Add.bits8 (fun HT_ HW_ => ?_)
 generalize World.drew w9 = w10 at HX hHeld ⊢
 refine pq_ 0 73 (bl 16 1) HT_ ?_
 refine pq_ 1 74 (bl 16 3) HT_ ?_
 refine tq_ 2 75 (bl 16 7) HT_ HW_ hHeld ?_ (hr := by rintro w' ⟨s0_, s1_, s2_⟩; go_simp; with_reducible rfl)
 refine pq_ 3 76 (bl 16 15) HT_ ?_
 refine pq_ 4 77 (bl 16 31) HT_ ?_
 refine pq_ 5 78 (bl 16 63) HT_ ?_
 refine pq_ 6 79 (bl 16 127) HT_ ?_
 refine pq_ 7 80 (bl 16 255) HT_ ?_
 refine tq_ 8 81 (bl 16 511) HT_ HW_ hHeld ?_ (hr := by rintro w' ⟨s0_, s1_, s2_⟩; go_simp; with_reducible rfl)
 refine pq_ 9 82 (bl 16 1023) HT_ ?_
 refine pq_ 10 83 (bl 16 2047) HT_ ?_
 refine pq_ 11 84 (bl 16 4095) HT_ ?_
 refine pq_ 12 85 (bl 16 8191) HT_ ?_
 refine tq_ 13 86 (bl 16 16383) HT_ HW_ hHeld ?_ (hr := by rintro w' ⟨s0_, s1_, s2_⟩; go_simp; with_reducible rfl)
 refine pq_ 14 87 (bl 16 32767) HT_ ?_
 refine pq_ 15 72 (bl 16 65535) HT_ ?_
 refine done_ (done_of HT_.out (by kernel_rfl)) ?_
 clear hHeld HT_ HW_
 try go_wp2
 have hmx1 : (if s.l < at_ then at_ else s.l) = mx s.l at_ := rfl
 have hmx2 : (if s.c < ca then ca else s.c) = mx s.c ca := rfl
 replace HX := aW (GX.below HX.out (below_drew bR))
 refine start_ (n := 31) (S := fun w' => w'.cell? ⟨ba, 2, none⟩ = some (.int .i64 at_) ∧ w'.cell? ⟨ba, 3, none⟩ = some (.int .i64 ca)) (ds := [30]) (bl 31 0) (by kernel_rfl) rfl rfl ⟨(blk_cell HX.out.a 2).trans rfl, (blk_cell HX.out.a 3).trans rfl⟩ (fun hHeld => ?_); refine with_tabW group_Grouper_Add.tab9 group_Grouper_Add.bits9 (fun HT_ HW_ => ?_)
 generalize World.drew w10 = w11 at HX hHeld ⊢
 refine pq_ 0 88 (bl 31 1) HT_ ?_
 refine pq_ 1 89 (bl 31 3) HT_ ?_
 refine pq_ 2 90 (bl 31 7) HT_ ?_
 refine pq_ 3 91 (bl 31 15) HT_ ?_
 refine pq_ 4 92 (bl 31 31) HT_ ?_
 refine pq_ 5 93 (bl 31 63) HT_ ?_
 refine pq_ 6 94 (bl 31 127) HT_ ?_
 refine pq_ 8 96 (bl 31 383) HT_ ?_
 refine pq_ 9 97 (bl 31 895) HT_ ?_
 refine tq_ 10 98 (bl 31 1919) HT_ HW_ hHeld ?_ (hr := by rintro w' ⟨s0_, s1_⟩; go_simp; with_reducible rfl)
 refine pq_ 12 100 (bl 31 6015) HT_ ?_
 refine pq_ 13 101 (bl 31 14207) HT_ ?_
 refine pq_ 14 102 (bl 31 30591) HT_ ?_
 refine pq_ 15 103 (bl 31 63359) HT_ ?_
 refine pq_ 16 104 (bl 31 128895) HT_ ?_
 refine pq_ 18 106 (bl 31 391039) HT_ ?_
 refine tq_ 19 107 (bl 31 915327) HT_ HW_ hHeld ?_ (hr := by rintro w' ⟨s0_, s1_⟩; go_simp; with_reducible rfl)
 have hs1_ : w11.cell? ⟨g, 1, none⟩ = some (.int .i64 s.l) := (blk_cell HX.out.f.blk 1).trans rfl
 have hfs1_ := blk_frozen HX.out.f.blk 1
 have hs2_ : w11.cell? ⟨g, 2, none⟩ = some (.int .i64 s.c) := (blk_cell HX.out.f.blk 2).trans rfl
 have hfs2_ := blk_frozen HX.out.f.blk 2
 refine two_ (i := 7) (j := 17) (Ni := some 95) (Nj := some 105) (bl 31 915455) (bl 31 1046399) rfl rfl rfl rfl (two_of HT_.out (by kernel_rfl)) (by decide) (by decide) (fun K hK => ?_) (fun K hK => ?_)
 ·refine value_ (v := .int .i64 s.l) (w1 := w11) (by rfl) rfl (by first | (go_simp; done) | (go_simp; rfl)) ?_
  refine hK.out _ _ ⟨(blk_cell HX.out.a 2).trans rfl, (blk_cell HX.out.a 3).trans rfl⟩ (fun hHeld => ?_)
  clear hK K
  refine no_ 95 ?_
  refine pq_ 11 99 (bl 31 917503) HT_ ?_
  refine one_ (i := 17) (N := some 105) (bl 31 1048575) rfl rfl (one_of HT_.out (by kernel_rfl)) (by decide) (fun K hK => ?_)
  refine value_ (v := .int .i64 s.c) (w1 := w11) (by rfl) rfl (by first | (go_simp; done) | (go_simp; rfl)) ?_
  refine hK.out _ _ ⟨(blk_cell HX.out.a 2).trans rfl, (blk_cell HX.out.a 3).trans rfl⟩ (fun hHeld => ?_)
  clear hK K
  refine no_ 105 ?_
  refine pq_ 20 108 (bl 31 2097151) HT_ ?_
  refine pq_ 21 109 (bl 31 4194303) HT_ ?_
  refine pq_ 22 110 (bl 31 8388607) HT_ ?_
  refine pq_ 23 111 (bl 31 16777215) HT_ ?_
  refine pq_ 24 112 (bl 31 33554431) HT_ ?_
  refine one_ (i := 25) (N := none) (bl 31 67108863) rfl rfl (one_of HT_.out (by kernel_rfl)) (by decide) (fun K hK => ?_)
  refine skip_ (w1 := w11.setCell ⟨g, 1, none⟩ (.int .i64 (mx s.l at_))) (by rfl) rfl (by first | (go_simp; done) | (go_simp; rfl)) ?_
  replace HX := aW (show GX w0 w (w11.setCell ⟨g, 1, none⟩ (.int .i64 (mx s.l at_))) g ba br #[.int .i64 s.f, .int .i64 (mx s.l at_), .int .i64 s.c, .int .i64 s.n, .bool s.o, dv, .int .i64 s.b] s.d dv #[.int .i64 q, .int .i64 sz, .int .i64 at_, .int .i64 ca, .bool false, .bool ecn] #[.int .i64 0, .int .i64 0, .int .i64 0] from GX.set (cs := GC s dv) HX.out 1 (.int .i64 (mx s.l at_)) rfl)
  clear hs1_ hfs1_ hs2_ hfs2_
  generalize w11.setCell ⟨g, 1, none⟩ (.int .i64 (mx s.l at_)) = w11a at HX ⊢
  refine hK.out _ _ ⟨(blk_cell HX.out.a 2).trans rfl, (blk_cell HX.out.a 3).trans rfl⟩ (fun hHeld => ?_)
  clear hK K
  refine pq_ 26 113 (bl 31 134217727) HT_ ?_
  refine pq_ 27 114 (bl 31 268435455) HT_ ?_
  refine pq_ 28 115 (bl 31 536870911) HT_ ?_
  refine pq_ 29 116 (bl 31 1073741823) HT_ ?_
  refine last_ (i := 30) (N := none) (bl 31 2147483647) rfl rfl (one_of HT_.out (by kernel_rfl)) (by decide) (fun K hK => ?_)
  have hs2_ : w11a.cell? ⟨g, 2, none⟩ = some (.int .i64 s.c) := (blk_cell HX.out.f.blk 2).trans rfl
  have hfs2_ := blk_frozen HX.out.f.blk 2
  refine skip_ (w1 := w11a.setCell ⟨g, 2, none⟩ (.int .i64 (mx s.c ca))) (by rfl) rfl (by first | (go_simp; done) | (go_simp; rfl)) ?_
  replace HX := aW (show GX w0 w (w11a.setCell ⟨g, 2, none⟩ (.int .i64 (mx s.c ca))) g ba br #[.int .i64 s.f, .int .i64 (mx s.l at_), .int .i64 (mx s.c ca), .int .i64 s.n, .bool s.o, dv, .int .i64 s.b] s.d dv #[.int .i64 q, .int .i64 sz, .int .i64 at_, .int .i64 ca, .bool false, .bool ecn] #[.int .i64 0, .int .i64 0, .int .i64 0] from GX.set (cs := #[.int .i64 s.f, .int .i64 (mx s.l at_), .int .i64 s.c, .int .i64 s.n, .bool s.o, dv, .int .i64 s.b]) HX.out 2 (.int .i64 (mx s.c ca)) rfl)
  clear hs2_ hfs2_
  generalize w11a.setCell ⟨g, 2, none⟩ (.int .i64 (mx s.c ca)) = w11b at HX ⊢
  refine hK.out _ _ ?_
  clear hK K
  refine done_ (done_of HT_.out (by kernel_rfl)) ?_
  clear hHeld HT_ HW_
  try go_wp2
  replace HX := aW (GX.below HX.out (below_drew bR))
  refine start_ (n := 13) (S := fun w' => w'.cell? ⟨g, 3, none⟩ = some (.int .i64 s.n) ∧ w'.cell? ⟨ba, 1, none⟩ = some (.int .i64 sz)) (ds := [12]) (bl 13 0) (by kernel_rfl) rfl rfl ⟨(blk_cell HX.out.f.blk 3).trans rfl, (blk_cell HX.out.a 1).trans rfl⟩ (fun hHeld => ?_); refine with_tabW group_Grouper_Add.tab10 group_Grouper_Add.bits10 (fun HT_ HW_ => ?_)
  generalize World.drew w11b = w12 at HX hHeld ⊢
  refine pq_ 0 117 (bl 13 1) HT_ ?_
  refine pq_ 1 118 (bl 13 3) HT_ ?_
  refine pq_ 2 119 (bl 13 7) HT_ ?_
  refine pq_ 3 120 (bl 13 15) HT_ ?_
  refine tq_ 4 121 (bl 13 31) HT_ HW_ hHeld ?_ (hr := by rintro w' ⟨s0_, s1_⟩; go_simp; with_reducible rfl)
  refine pq_ 5 122 (bl 13 63) HT_ ?_
  refine pq_ 6 123 (bl 13 127) HT_ ?_
  refine tq_ 7 124 (bl 13 255) HT_ HW_ hHeld ?_ (hr := by rintro w' ⟨s0_, s1_⟩; go_simp; with_reducible rfl)
  refine pq_ 8 125 (bl 13 511) HT_ ?_
  refine pq_ 9 126 (bl 13 1023) HT_ ?_
  refine pq_ 10 127 (bl 13 2047) HT_ ?_
  refine pq_ 11 128 (bl 13 4095) HT_ ?_
  refine last_ (i := 12) (N := none) (bl 13 8191) rfl rfl (one_of HT_.out (by kernel_rfl)) (by decide) (fun K hK => ?_)
  have hs_ : w12.cell? ⟨g, 3, none⟩ = some (.int .i64 s.n) := (blk_cell HX.out.f.blk 3).trans rfl
  have hfs_ := blk_frozen HX.out.f.blk 3
  refine skip_ (w1 := ?_) (by rfl) rfl ?_ ?_
  rotate_left
  ·go_simp
   rfl
  replace HX := aW (show GX w0 w (w12.setCell ⟨g, 3, none⟩ (.int .i64 (wrap64 (s.n + sz)))) g ba br #[.int .i64 s.f, .int .i64 (mx s.l at_), .int .i64 (mx s.c ca), .int .i64 (wrap64 (s.n + sz)), .bool s.o, dv, .int .i64 s.b] s.d dv #[.int .i64 q, .int .i64 sz, .int .i64 at_, .int .i64 ca, .bool false, .bool ecn] #[.int .i64 0, .int .i64 0, .int .i64 0] from GX.set (cs := #[.int .i64 s.f, .int .i64 (mx s.l at_), .int .i64 (mx s.c ca), .int .i64 s.n, .bool s.o, dv, .int .i64 s.b]) HX.out 3 (.int .i64 (wrap64 (s.n + sz))) rfl)
  clear hs_ hfs_
  generalize (w12.setCell ⟨g, 3, none⟩ (.int .i64 (wrap64 (s.n + sz)))) = w12a at HX ⊢
  refine hK.out _ _ ?_
  clear hK K
  refine done_ (done_of HT_.out (by kernel_rfl)) ?_
  clear hHeld HT_ HW_
  obtain ⟨hq0_, hqf0_, hq1_, hqf1_, hq2_, hqf2_⟩ := bp3 HX.out.r
  go_wp2
  have key : GX w0 w _ g ba br #[.int .i64 s.f, .int .i64 (mx s.l at_), .int .i64 (mx s.c ca), .int .i64 (wrap64 (s.n + sz)), .bool s.o, dv, .int .i64 s.b] s.d dv #[.int .i64 q, .int .i64 sz, .int .i64 at_, .int .i64 ca, .bool false, .bool ecn] #[.int .i64 0, .int .i64 0, .int .i64 0] := GX.setr (rs := #[.int .i64 0, .int .i64 0, .int .i64 0]) (GX.setr (rs := #[.int .i64 0, .int .i64 0, .int .i64 0]) (GX.setr (rs := #[.int .i64 0, .int .i64 0, .int .i64 0]) (HX.out) HWW.out 0 (.int .i64 0) rfl) HWW.out 1 (.int .i64 0) rfl) HWW.out 2 (.int .i64 0) rfl
  refine bodyPost_ret (results_row_tmp rfl _ _ br 67 #[.int .i64 0, .int .i64 0, .int .i64 0] (0, 0) _ rfl o100 Tryd.underlying67 rfl (by kernel_rfl)) rfl ?_
  exact ⟨rfl, ⟨dv, key.f.blk, key.f.ge, key.f.dn⟩, key.f.bel, key.f.kp⟩
 ·refine value_ (v := .int .i64 s.c) (w1 := w11) (by rfl) rfl (by first | (go_simp; done) | (go_simp; rfl)) ?_
  refine hK.out _ _ ⟨(blk_cell HX.out.a 2).trans rfl, (blk_cell HX.out.a 3).trans rfl⟩ (fun hHeld => ?_)
  clear hK K
  refine no_ 105 ?_
  refine pq_ 20 108 (bl 31 2094975) HT_ ?_
  refine one_ (i := 7) (N := some 95) (bl 31 2095103) rfl rfl (one_of HT_.out (by kernel_rfl)) (by decide) (fun K hK => ?_)
  refine value_ (v := .int .i64 s.l) (w1 := w11) (by rfl) rfl (by first | (go_simp; done) | (go_simp; rfl)) ?_
  refine hK.out _ _ ⟨(blk_cell HX.out.a 2).trans rfl, (blk_cell HX.out.a 3).trans rfl⟩ (fun hHeld => ?_)
  clear hK K
  refine no_ 95 ?_
  refine pq_ 11 99 (bl 31 2097151) HT_ ?_
  refine pq_ 21 109 (bl 31 4194303) HT_ ?_
  refine pq_ 22 110 (bl 31 8388607) HT_ ?_
  refine pq_ 23 111 (bl 31 16777215) HT_ ?_
  refine pq_ 24 112 (bl 31 33554431) HT_ ?_
  refine one_ (i := 25) (N := none) (bl 31 67108863) rfl rfl (one_of HT_.out (by kernel_rfl)) (by decide) (fun K hK => ?_)
  refine skip_ (w1 := w11.setCell ⟨g, 1, none⟩ (.int .i64 (mx s.l at_))) (by rfl) rfl (by first | (go_simp; done) | (go_simp; rfl)) ?_
  replace HX := aW (show GX w0 w (w11.setCell ⟨g, 1, none⟩ (.int .i64 (mx s.l at_))) g ba br #[.int .i64 s.f, .int .i64 (mx s.l at_), .int .i64 s.c, .int .i64 s.n, .bool s.o, dv, .int .i64 s.b] s.d dv #[.int .i64 q, .int .i64 sz, .int .i64 at_, .int .i64 ca, .bool false, .bool ecn] #[.int .i64 0, .int .i64 0, .int .i64 0] from GX.set (cs := GC s dv) HX.out 1 (.int .i64 (mx s.l at_)) rfl)
  clear hs1_ hfs1_ hs2_ hfs2_
  generalize w11.setCell ⟨g, 1, none⟩ (.int .i64 (mx s.l at_)) = w11a at HX ⊢
  refine hK.out _ _ ⟨(blk_cell HX.out.a 2).trans rfl, (blk_cell HX.out.a 3).trans rfl⟩ (fun hHeld => ?_)
  clear hK K
  refine pq_ 26 113 (bl 31 134217727) HT_ ?_
  refine pq_ 27 114 (bl 31 268435455) HT_ ?_
  refine pq_ 28 115 (bl 31 536870911) HT_ ?_
  refine pq_ 29 116 (bl 31 1073741823) HT_ ?_
  refine last_ (i := 30) (N := none) (bl 31 2147483647) rfl rfl (one_of HT_.out (by kernel_rfl)) (by decide) (fun K hK => ?_)
  have hs2_ : w11a.cell? ⟨g, 2, none⟩ = some (.int .i64 s.c) := (blk_cell HX.out.f.blk 2).trans rfl
  have hfs2_ := blk_frozen HX.out.f.blk 2
  refine skip_ (w1 := w11a.setCell ⟨g, 2, none⟩ (.int .i64 (mx s.c ca))) (by rfl) rfl (by first | (go_simp; done) | (go_simp; rfl)) ?_
  replace HX := aW (show GX w0 w (w11a.setCell ⟨g, 2, none⟩ (.int .i64 (mx s.c ca))) g ba br #[.int .i64 s.f, .int .i64 (mx s.l at_), .int .i64 (mx s.c ca), .int .i64 s.n, .bool s.o, dv, .int .i64 s.b] s.d dv #[.int .i64 q, .int .i64 sz, .int .i64 at_, .int .i64 ca, .bool false, .bool ecn] #[.int .i64 0, .int .i64 0, .int .i64 0] from GX.set (cs := #[.int .i64 s.f, .int .i64 (mx s.l at_), .int .i64 s.c, .int .i64 s.n, .bool s.o, dv, .int .i64 s.b]) HX.out 2 (.int .i64 (mx s.c ca)) rfl)
  clear hs2_ hfs2_
  generalize w11a.setCell ⟨g, 2, none⟩ (.int .i64 (mx s.c ca)) = w11b at HX ⊢
  refine hK.out _ _ ?_
  clear hK K
  refine done_ (done_of HT_.out (by kernel_rfl)) ?_
  clear hHeld HT_ HW_
  try go_wp2
  replace HX := aW (GX.below HX.out (below_drew bR))
  refine start_ (n := 13) (S := fun w' => w'.cell? ⟨g, 3, none⟩ = some (.int .i64 s.n) ∧ w'.cell? ⟨ba, 1, none⟩ = some (.int .i64 sz)) (ds := [12]) (bl 13 0) (by kernel_rfl) rfl rfl ⟨(blk_cell HX.out.f.blk 3).trans rfl, (blk_cell HX.out.a 1).trans rfl⟩ (fun hHeld => ?_); refine with_tabW group_Grouper_Add.tab10 group_Grouper_Add.bits10 (fun HT_ HW_ => ?_)
  generalize World.drew w11b = w12 at HX hHeld ⊢
  refine pq_ 0 117 (bl 13 1) HT_ ?_
  refine pq_ 1 118 (bl 13 3) HT_ ?_
  refine pq_ 2 119 (bl 13 7) HT_ ?_
  refine pq_ 3 120 (bl 13 15) HT_ ?_
  refine tq_ 4 121 (bl 13 31) HT_ HW_ hHeld ?_ (hr := by rintro w' ⟨s0_, s1_⟩; go_simp; with_reducible rfl)
  refine pq_ 5 122 (bl 13 63) HT_ ?_
  refine pq_ 6 123 (bl 13 127) HT_ ?_
  refine tq_ 7 124 (bl 13 255) HT_ HW_ hHeld ?_ (hr := by rintro w' ⟨s0_, s1_⟩; go_simp; with_reducible rfl)
  refine pq_ 8 125 (bl 13 511) HT_ ?_
  refine pq_ 9 126 (bl 13 1023) HT_ ?_
  refine pq_ 10 127 (bl 13 2047) HT_ ?_
  refine pq_ 11 128 (bl 13 4095) HT_ ?_
  refine last_ (i := 12) (N := none) (bl 13 8191) rfl rfl (one_of HT_.out (by kernel_rfl)) (by decide) (fun K hK => ?_)
  have hs_ : w12.cell? ⟨g, 3, none⟩ = some (.int .i64 s.n) := (blk_cell HX.out.f.blk 3).trans rfl
  have hfs_ := blk_frozen HX.out.f.blk 3
  refine skip_ (w1 := ?_) (by rfl) rfl ?_ ?_
  rotate_left
  ·go_simp
   rfl
  replace HX := aW (show GX w0 w (w12.setCell ⟨g, 3, none⟩ (.int .i64 (wrap64 (s.n + sz)))) g ba br #[.int .i64 s.f, .int .i64 (mx s.l at_), .int .i64 (mx s.c ca), .int .i64 (wrap64 (s.n + sz)), .bool s.o, dv, .int .i64 s.b] s.d dv #[.int .i64 q, .int .i64 sz, .int .i64 at_, .int .i64 ca, .bool false, .bool ecn] #[.int .i64 0, .int .i64 0, .int .i64 0] from GX.set (cs := #[.int .i64 s.f, .int .i64 (mx s.l at_), .int .i64 (mx s.c ca), .int .i64 s.n, .bool s.o, dv, .int .i64 s.b]) HX.out 3 (.int .i64 (wrap64 (s.n + sz))) rfl)
  clear hs_ hfs_
  generalize (w12.setCell ⟨g, 3, none⟩ (.int .i64 (wrap64 (s.n + sz)))) = w12a at HX ⊢
  refine hK.out _ _ ?_
  clear hK K
  refine done_ (done_of HT_.out (by kernel_rfl)) ?_
  clear hHeld HT_ HW_
  obtain ⟨hq0_, hqf0_, hq1_, hqf1_, hq2_, hqf2_⟩ := bp3 HX.out.r
  go_wp2
  have key : GX w0 w _ g ba br #[.int .i64 s.f, .int .i64 (mx s.l at_), .int .i64 (mx s.c ca), .int .i64 (wrap64 (s.n + sz)), .bool s.o, dv, .int .i64 s.b] s.d dv #[.int .i64 q, .int .i64 sz, .int .i64 at_, .int .i64 ca, .bool false, .bool ecn] #[.int .i64 0, .int .i64 0, .int .i64 0] := GX.setr (rs := #[.int .i64 0, .int .i64 0, .int .i64 0]) (GX.setr (rs := #[.int .i64 0, .int .i64 0, .int .i64 0]) (GX.setr (rs := #[.int .i64 0, .int .i64 0, .int .i64 0]) (HX.out) HWW.out 0 (.int .i64 0) rfl) HWW.out 1 (.int .i64 0) rfl) HWW.out 2 (.int .i64 0) rfl
  refine bodyPost_ret (results_row_tmp rfl _ _ br 67 #[.int .i64 0, .int .i64 0, .int .i64 0] (0, 0) _ rfl o100 Tryd.underlying67 rfl (by kernel_rfl)) rfl ?_
  exact ⟨rfl, ⟨dv, key.f.blk, key.f.ge, key.f.dn⟩, key.f.bel, key.f.kp⟩
set_option maxHeartbeats 16000000 in
set_option maxRecDepth 100000 in
theorem group_Grouper_Add.first (k : Nat) (g : Nat) (s : GrS) (q sz at_ ca : Int) (late ecn : Bool) (w0 w : World) (hI : IsS85 w0 w g s) (hB : Below w0.heap.size w0 w) (h0 : late = false) (h1 : decide (sz < 0) = false) (h2 : decide (1500 < sz) = false) (h3 : decide (at_ < 0) = false) (h4 : decide (1125899906842624 < at_) = false) (h5 : decide (ca < -1125899906842624) = false) (h6 : decide (1125899906842624 < ca) = false) (h7 : s.o = true) (h8 : decide (at_ < s.f) = false) (h9 : decide (wrap64 (at_ - s.f) ≤ s.b) = false) (h10 : s.d = none) :
  Calls Tryd.prog 19 #[.pointer (some ⟨g, 0, none⟩), .agg #[.int .i64 q, .int .i64 sz, .int .i64 at_, .int .i64 ca, .bool late, .bool ecn]] w fun e w' => e = .returned (.tuple #[.agg #[.int .i64 0, .int .i64 0, .int .i64 0], .bool false]) ∧ IsS85 w0 w' g ⟨at_, at_, ca, sz, true, (some (s.f, s.l, s.c, s.n)), s.b⟩ ∧ Below w0.heap.size w0 w' ∧ KeepBut w w' g none := by
 have hnn83_eql : ∀ (W_ : World), (Go.binOp .eql 83 (.pointer none) (.pointer none)).run Tryd.prog W_ = .ok (.bool true) W_ := fun _ => by kernel_rfl
 have hu85 := Tryd.underlying85
 have hu82 := Tryd.underlying82
 have hu80 := Tryd.underlying80
 have hu41 := Tryd.underlying41
 have hu39 := Tryd.underlying39
 have hu67 := Tryd.underlying67
 have hpn54_eql : ∀ (a_ : Addr) (W_ : World), (Go.binOp .eql 54 (.pointer (some a_)) (.pointer none)).run Tryd.prog W_ = .ok (.bool false) W_ := fun _ _ => by kernel_rfl
 subst h0
 obtain ⟨dv, hg0⟩ := GF.of hI hB
 have hdv : dv = .pointer none := by have hh := hg0.dn; rw [h10] at hh; exact hh
 subst hdv
 have HG := aW hg0
 have HWW := aW hB.size
 clear hg0 hI hB
 go_enter Tryd.func19, Tryd.ntmps19
 go_wp2_with (first | ((with_reducible refine gate_dst (N := 3) rfl ?_); refine box_event ?hg (N := 3) ?hd (cs := #[.int .i64 q, .int .i64 sz, .int .i64 at_, .int .i64 ca, .bool false, .bool ecn]) (t := 41) ?hr ?_; (case hd => rfl); (case hg => rfl); (case hr => first | (go_simp; done) | (go_simp; rfl)); intro ba hg w7 hbox hb; have n0_ := aW (GF.below (show GF w0 w _ g (GC s (.pointer none)) s.d (.pointer none) from o66) hb); have n1_ := aW hbox; clear HG hb hbox hg; have HG := n0_; have HA := n1_; clear n0_ n1_) | ((with_reducible refine gate_dst (N := 4) rfl ?_); refine box_event ?hg (N := 4) ?hd (cs := #[.int .i64 0, .int .i64 0, .int .i64 0]) (t := 67) ?hr ?_; (case hd => rfl); (case hg => rfl); (case hr => first | (go_simp; done) | (go_simp; rfl)); intro br hg w8 hbox hb; have n2_ := aW (show w.heap.size ≤ br from by rw [hg]; exact HG.out.kp.1); have n0_ := aW (GX.mk (GF.below (show GF w0 w _ g (GC s (.pointer none)) s.d (.pointer none) from o66) hb) (blk_below (g := ba) (o := .cells #[.int .i64 q, .int .i64 sz, .int .i64 at_, .int .i64 ca, .bool false, .bool ecn] 41 (0, 0)) HA.out hb) hbox n2_.out); clear HG HA hb hbox hg n2_; have HX := n0_; clear n0_; obtain ⟨ha0_, haf0_, ha1_, haf1_, ha2_, haf2_, ha3_, haf3_, ha4_, haf4_, ha5_, haf5_⟩ := bp6 HX.out.a; obtain ⟨hc0_, hcf0_, hc1_, hcf1_, hc2_, hcf2_, hc3_, hcf3_, hc4_, hcf4_, hc5_, hcf5_, hc6_, hcf6_⟩ := bp7 HX.out.f.blk; obtain ⟨hr0_, hrf0_, hr1_, hrf1_, hr2_, hrf2_⟩ := bp3 HX.out.r; rw [h7] at hc4_))
 clear ha0_ ha1_ ha2_ ha3_ ha4_ ha5_ haf0_ haf1_ haf2_ haf3_ haf4_ haf5_ hc0_ hc1_ hc2_ hc3_ hc4_ hc5_ hc6_ hcf0_ hcf1_ hcf2_ hcf3_ hcf4_ hcf5_ hcf6_ hr0_ hr1_ hr2_ hrf0_ hrf1_ hrf2_
 replace HX := aW (GX.below HX.out (below_drew bR))
 refine start_ (n := 11) (S := fun w' => w'.cell? ⟨g, 0, none⟩ = some (.int .i64 s.f) ∧ w'.cell? ⟨ba, 2, none⟩ = some (.int .i64 at_)) (ds := []) (bl 11 0) (by kernel_rfl) rfl rfl ⟨(blk_cell HX.out.f.blk 0).trans rfl, (blk_cell HX.out.a 2).trans rfl⟩ (fun hHeld => ?_); refine with_tabW group_Grouper_Add.tab6 group_Grouper_Add.bits6 (fun HT_ HW_ => ?_)
 generalize World.drew w8 = w9 at HX hHeld ⊢
 refine pq_ 0 61 (bl 11 1) HT_ ?_
 refine pq_ 1 62 (bl 11 3) HT_ ?_
 refine tq_ 2 63 (bl 11 7) HT_ HW_ hHeld ?_ (hr := by rintro w' ⟨s0_, s1_⟩; go_simp; with_reducible rfl)
 refine pq_ 3 64 (bl 11 15) HT_ ?_
 refine pq_ 4 65 (bl 11 31) HT_ ?_
 refine pq_ 5 66 (bl 11 63) HT_ ?_
 refine pq_ 6 67 (bl 11 127) HT_ ?_
 refine pq_ 7 68 (bl 11 255) HT_ ?_
 refine tq_ 8 69 (bl 11 511) HT_ HW_ hHeld ?_ (hr := by rintro w' ⟨s0_, s1_⟩; go_simp; with_reducible rfl)
 refine pq_ 9 70 (bl 11 1023) HT_ ?_
 refine pq_ 10 60 (bl 11 2047) HT_ ?_
 refine done_ (done_of HT_.out (by kernel_rfl)) ?_
 clear hHeld HT_ HW_
 try go_wp2
 replace HX := aW (GX.below HX.out (below_drew bR))
 refine start_ (n := 16) (S := fun w' => w'.cell? ⟨g, 0, none⟩ = some (.int .i64 s.f) ∧ w'.cell? ⟨g, 6, none⟩ = some (.int .i64 s.b) ∧ w'.cell? ⟨ba, 2, none⟩ = some (.int .i64 at_)) (ds := []) (bl 16 0) (by kernel_rfl) rfl rfl ⟨(blk_cell HX.out.f.blk 0).trans rfl, (blk_cell HX.out.f.blk 6).trans rfl, (blk_cell HX.out.a 2).trans rfl⟩ (fun hHeld => ?_); refine with_tabW group_Grouper_Add.tab8 group_Grouper_Add.bits8 (fun HT_ HW_ => ?_)
 generalize World.drew w9 = w10 at HX hHeld ⊢
 refine pq_ 0 73 (bl 16 1) HT_ ?_
 refine pq_ 1 74 (bl 16 3) HT_ ?_
 refine tq_ 2 75 (bl 16 7) HT_ HW_ hHeld ?_ (hr := by rintro w' ⟨s0_, s1_, s2_⟩; go_simp; with_reducible rfl)
 refine pq_ 3 76 (bl 16 15) HT_ ?_
 refine pq_ 4 77 (bl 16 31) HT_ ?_
 refine pq_ 5 78 (bl 16 63) HT_ ?_
 refine pq_ 6 79 (bl 16 127) HT_ ?_
 refine pq_ 7 80 (bl 16 255) HT_ ?_
 refine tq_ 8 81 (bl 16 511) HT_ HW_ hHeld ?_ (hr := by rintro w' ⟨s0_, s1_, s2_⟩; go_simp; with_reducible rfl)
 refine pq_ 9 82 (bl 16 1023) HT_ ?_
 refine pq_ 10 83 (bl 16 2047) HT_ ?_
 refine pq_ 11 84 (bl 16 4095) HT_ ?_
 refine pq_ 12 85 (bl 16 8191) HT_ ?_
 refine tq_ 13 86 (bl 16 16383) HT_ HW_ hHeld ?_ (hr := by rintro w' ⟨s0_, s1_, s2_⟩; go_simp; with_reducible rfl)
 refine pq_ 14 87 (bl 16 32767) HT_ ?_
 refine pq_ 15 72 (bl 16 65535) HT_ ?_
 refine done_ (done_of HT_.out (by kernel_rfl)) ?_
 clear hHeld HT_ HW_
 try go_wp2
 replace HX := aW (GX.below HX.out (below_drew bR))
 refine start_ (n := 11) (S := fun w' => w'.cell? ⟨g, 0, none⟩ = some (.int .i64 s.f) ∧ w'.cell? ⟨g, 1, none⟩ = some (.int .i64 s.l) ∧ w'.cell? ⟨g, 2, none⟩ = some (.int .i64 s.c) ∧ w'.cell? ⟨g, 3, none⟩ = some (.int .i64 s.n) ∧ w'.cell? ⟨g, 5, none⟩ = some ((.pointer none))) (ds := [9]) (bl 11 0) (by kernel_rfl) rfl rfl ⟨(blk_cell HX.out.f.blk 0).trans rfl, (blk_cell HX.out.f.blk 1).trans rfl, (blk_cell HX.out.f.blk 2).trans rfl, (blk_cell HX.out.f.blk 3).trans rfl, (blk_cell HX.out.f.blk 5).trans rfl⟩ (fun hHeld => ?_); refine with_tabW group_Grouper_Add.tab12 group_Grouper_Add.bits12 (fun HT_ HW_ => ?_)
 generalize World.drew w10 = w11 at HX hHeld ⊢
 refine pq_ 0 130 (bl 11 1) HT_ ?_
 refine pq_ 1 131 (bl 11 3) HT_ ?_
 refine pq_ 2 132 (bl 11 7) HT_ ?_
 refine tq_ 3 133 (bl 11 15) HT_ HW_ hHeld ?_ (hr := by rintro w' ⟨s0_, s1_, s2_, s3_, s4_⟩; go_simp; with_reducible rfl)
 refine pq_ 4 134 (bl 11 31) HT_ ?_
 refine pq_ 5 135 (bl 11 63) HT_ ?_
 refine pq_ 6 136 (bl 11 127) HT_ ?_
 refine tq_ 7 137 (bl 11 255) HT_ HW_ hHeld ?_ (hr := by rintro w' ⟨s0_, s1_, s2_, s3_, s4_⟩; go_simp; with_reducible rfl)
 refine one_ (i := 8) (N := some 6) (bl 11 511) rfl rfl (one_of HT_.out (by kernel_rfl)) (by decide) (fun K hK => ?_)
 refine box_step ?hg (N := 6) ?hd (cs := #[.int .i64 0, .int .i64 0, .int .i64 0, .int .i64 0]) (t := 82) ?hr ?_; (case hd => rfl); (case hg => rfl); (case hr => first | (go_simp; done) | (go_simp; rfl))
 intro bd hgd w11a hbox hb
 have HBD := aW hbox
 have HBE := aW hb
 have HGD := aW hgd
 have HX0 := HX
 replace HX := aW (GX.below HX.out hb)
 clear hbox hb hgd
 refine hK.out _ _ ⟨(blk_cell HX.out.f.blk 0).trans rfl, (blk_cell HX.out.f.blk 1).trans rfl, (blk_cell HX.out.f.blk 2).trans rfl, (blk_cell HX.out.f.blk 3).trans rfl, (blk_cell HX.out.f.blk 5).trans rfl⟩ (fun hHeld => ?_)
 clear hK K
 refine no_ 6 ?_
 refine last_ (i := 9) (N := none) (bl 11 1023) rfl rfl (one_of HT_.out (by kernel_rfl)) (by decide) (fun K hK => ?_)
 obtain ⟨hs0_, hsf0_, hs1_, hsf1_, hs2_, hsf2_, hs3_, hsf3_⟩ := bp4 HBD.out
 refine skip_ (w1 := ?_) (by rfl) rfl ?_ ?_
 rotate_left
 ·go_simp
  rfl
 clear hs0_ hsf0_ hs1_ hsf1_ hs2_ hsf2_ hs3_ hsf3_
 have hb4 : Below w11.heap.size w11 ((((w11a.setCell ⟨bd, 0, none⟩ (.int .i64 s.f)).setCell ⟨bd, 1, none⟩ (.int .i64 s.l)).setCell ⟨bd, 2, none⟩ (.int .i64 s.c)).setCell ⟨bd, 3, none⟩ (.int .i64 s.n)) := below_set (below_set (below_set (below_set HBE.out (Nat.le_of_eq HGD.out.symm)) (Nat.le_of_eq HGD.out.symm)) (Nat.le_of_eq HGD.out.symm)) (Nat.le_of_eq HGD.out.symm)
 have hd4 : ((((w11a.setCell ⟨bd, 0, none⟩ (.int .i64 s.f)).setCell ⟨bd, 1, none⟩ (.int .i64 s.l)).setCell ⟨bd, 2, none⟩ (.int .i64 s.c)).setCell ⟨bd, 3, none⟩ (.int .i64 s.n)).heap[bd]? = some (.cells #[.int .i64 s.f, .int .i64 s.l, .int .i64 s.c, .int .i64 s.n] 82 (0, 0)) := blk_put (cs := #[.int .i64 s.f, .int .i64 s.l, .int .i64 s.c, .int .i64 0]) (blk_put (cs := #[.int .i64 s.f, .int .i64 s.l, .int .i64 0, .int .i64 0]) (blk_put (cs := #[.int .i64 s.f, .int .i64 0, .int .i64 0, .int .i64 0]) (blk_put (cs := #[.int .i64 0, .int .i64 0, .int .i64 0, .int .i64 0]) HBD.out 0 _ rfl) 1 _ rfl) 2 _ rfl) 3 _ rfl
 clear HX HBD HBE
 have HX := aW (GX.below HX0.out hb4)
 have HBD := aW hd4
 have HGW := aW (show w.heap.size ≤ bd from by rw [HGD.out]; exact HX0.out.f.kp.1)
 clear HX0 hb4 hd4 HGD
 generalize ((((w11a.setCell ⟨bd, 0, none⟩ (.int .i64 s.f)).setCell ⟨bd, 1, none⟩ (.int .i64 s.l)).setCell ⟨bd, 2, none⟩ (.int .i64 s.c)).setCell ⟨bd, 3, none⟩ (.int .i64 s.n)) = w11b at HX HBD ⊢
 refine hK.out _ _ ?_
 clear hK K
 refine pq_ 10 7 (bl 11 2047) HT_ ?_
 refine done_ (done_of HT_.out (by kernel_rfl)) ?_
 clear hHeld HT_ HW_
 have hs5_ : w11b.cell? ⟨g, 5, none⟩ = some ((.pointer none)) := (blk_cell HX.out.f.blk 5).trans rfl
 have hsf5_ := blk_frozen HX.out.f.blk 5
 have hbg_ : ba ≠ g := bkt HX.out.a HX.out.f.blk (by decide)
 have hne1_ : (ba = g) = False := eq_false hbg_
 have hne2_ : (g = ba) = False := eq_false (Ne.symm hbg_)
 obtain ⟨ha0_, haf0_, ha1_, haf1_, ha2_, haf2_, ha3_, haf3_, ha4_, haf4_, ha5_, haf5_⟩ := bp6 HX.out.a
 go_wp2_with (first | (go_at_call 31; (with_reducible refine (group_Grouper_begins.calls g (⟨s.f, s.l, s.c, s.n, s.o, (some (s.f, s.l, s.c, s.n)), s.b⟩ : GrS) q sz at_ ca false ecn w0 _ ?side1 ?side2).mono ?_); (case side1 => exact (fun (h : GX w0 w _ g ba br (GC (⟨s.f, s.l, s.c, s.n, s.o, (some (s.f, s.l, s.c, s.n)), s.b⟩ : GrS) (.pointer (some ⟨bd, 0, none⟩))) (some (s.f, s.l, s.c, s.n)) (.pointer (some ⟨bd, 0, none⟩)) #[.int .i64 q, .int .i64 sz, .int .i64 at_, .int .i64 ca, .bool false, .bool ecn] #[.int .i64 0, .int .i64 0, .int .i64 0]) => (⟨_, h.f.blk, h.f.ge, h.f.dn⟩ : IsS85 w0 _ g _)) (show GX w0 w _ g ba br (GC (⟨s.f, s.l, s.c, s.n, s.o, (some (s.f, s.l, s.c, s.n)), s.b⟩ : GrS) (.pointer (some ⟨bd, 0, none⟩))) (some (s.f, s.l, s.c, s.n)) (.pointer (some ⟨bd, 0, none⟩)) #[.int .i64 q, .int .i64 sz, .int .i64 at_, .int .i64 ca, .bool false, .bool ecn] #[.int .i64 0, .int .i64 0, .int .i64 0] from ⟨⟨blk_put HX.out.f.blk 5 _ rfl, HX.out.f.ge, HX.out.f.lt, ⟨bd, rfl, far_t HBD.out HX.out.f.blk (by decide), Nat.le_trans HWW.out HGW.out⟩, below_set HX.out.f.bel HX.out.f.ge, HX.out.f.kp.set_ 5 _⟩, far_t HX.out.a HX.out.f.blk (by decide), far_t HX.out.r HX.out.f.blk (by decide), HX.out.rn⟩)); (case side2 => exact (fun (h : GX w0 w _ g ba br (GC (⟨s.f, s.l, s.c, s.n, s.o, (some (s.f, s.l, s.c, s.n)), s.b⟩ : GrS) (.pointer (some ⟨bd, 0, none⟩))) (some (s.f, s.l, s.c, s.n)) (.pointer (some ⟨bd, 0, none⟩)) #[.int .i64 q, .int .i64 sz, .int .i64 at_, .int .i64 ca, .bool false, .bool ecn] #[.int .i64 0, .int .i64 0, .int .i64 0]) => h.f.bel) (show GX w0 w _ g ba br (GC (⟨s.f, s.l, s.c, s.n, s.o, (some (s.f, s.l, s.c, s.n)), s.b⟩ : GrS) (.pointer (some ⟨bd, 0, none⟩))) (some (s.f, s.l, s.c, s.n)) (.pointer (some ⟨bd, 0, none⟩)) #[.int .i64 q, .int .i64 sz, .int .i64 at_, .int .i64 ca, .bool false, .bool ecn] #[.int .i64 0, .int .i64 0, .int .i64 0] from ⟨⟨blk_put HX.out.f.blk 5 _ rfl, HX.out.f.ge, HX.out.f.lt, ⟨bd, rfl, far_t HBD.out HX.out.f.blk (by decide), Nat.le_trans HWW.out HGW.out⟩, below_set HX.out.f.bel HX.out.f.ge, HX.out.f.kp.set_ 5 _⟩, far_t HX.out.a HX.out.f.blk (by decide), far_t HX.out.r HX.out.f.blk (by decide), HX.out.rn⟩)); rintro e w12 ⟨rfl, hi, hb, hk⟩; have n3_ := aW (kb_at hk (far_t HBD.out HX.out.f.blk (by decide)) (bkt (far_t HBD.out HX.out.f.blk (by decide)) (show GX w0 w _ g ba br (GC (⟨s.f, s.l, s.c, s.n, s.o, (some (s.f, s.l, s.c, s.n)), s.b⟩ : GrS) (.pointer (some ⟨bd, 0, none⟩))) (some (s.f, s.l, s.c, s.n)) (.pointer (some ⟨bd, 0, none⟩)) #[.int .i64 q, .int .i64 sz, .int .i64 at_, .int .i64 ca, .bool false, .bool ecn] #[.int .i64 0, .int .i64 0, .int .i64 0] from ⟨⟨blk_put HX.out.f.blk 5 _ rfl, HX.out.f.ge, HX.out.f.lt, ⟨bd, rfl, far_t HBD.out HX.out.f.blk (by decide), Nat.le_trans HWW.out HGW.out⟩, below_set HX.out.f.bel HX.out.f.ge, HX.out.f.kp.set_ 5 _⟩, far_t HX.out.a HX.out.f.blk (by decide), far_t HX.out.r HX.out.f.blk (by decide), HX.out.rn⟩).f.blk (by decide))); obtain ⟨dv1, hx1⟩ := GX.begun (show GX w0 w _ g ba br (GC (⟨s.f, s.l, s.c, s.n, s.o, (some (s.f, s.l, s.c, s.n)), s.b⟩ : GrS) (.pointer (some ⟨bd, 0, none⟩))) (some (s.f, s.l, s.c, s.n)) (.pointer (some ⟨bd, 0, none⟩)) #[.int .i64 q, .int .i64 sz, .int .i64 at_, .int .i64 ca, .bool false, .bool ecn] #[.int .i64 0, .int .i64 0, .int .i64 0] from ⟨⟨blk_put HX.out.f.blk 5 _ rfl, HX.out.f.ge, HX.out.f.lt, ⟨bd, rfl, far_t HBD.out HX.out.f.blk (by decide), Nat.le_trans HWW.out HGW.out⟩, below_set HX.out.f.bel HX.out.f.ge, HX.out.f.kp.set_ 5 _⟩, far_t HX.out.a HX.out.f.blk (by decide), far_t HX.out.r HX.out.f.blk (by decide), HX.out.rn⟩) hi hb hk; clear HX HBD  hi hb hk; have HX := aW hx1; have HBD := n3_; clear hx1 n3_ ; obtain ⟨hq0_, hqf0_, hq1_, hqf1_, hq2_, hqf2_⟩ := bp3 HX.out.r; skip))
 have key : GX w0 w _ g ba br (GC (⟨at_, at_, ca, sz, true, (some (s.f, s.l, s.c, s.n)), s.b⟩ : GrS) dv1) (some (s.f, s.l, s.c, s.n)) dv1 #[.int .i64 q, .int .i64 sz, .int .i64 at_, .int .i64 ca, .bool false, .bool ecn] #[.int .i64 0, .int .i64 0, .int .i64 0] := GX.setr (rs := #[.int .i64 0, .int .i64 0, .int .i64 0]) (GX.setr (rs := #[.int .i64 0, .int .i64 0, .int .i64 0]) (GX.setr (rs := #[.int .i64 0, .int .i64 0, .int .i64 0]) HX.out HWW.out 0 (.int .i64 0) rfl) HWW.out 1 (.int .i64 0) rfl) HWW.out 2 (.int .i64 0) rfl
 refine bodyPost_ret (results_row_tmp rfl _ _ br 67 #[.int .i64 0, .int .i64 0, .int .i64 0] (0, 0) _ rfl key.r Tryd.underlying67 rfl (by kernel_rfl)) rfl ?_
 exact ⟨rfl, ⟨dv1, key.f.blk, key.f.ge, key.f.dn⟩, key.f.bel, key.f.kp⟩
set_option maxHeartbeats 16000000 in
set_option maxRecDepth 100000 in
theorem group_Grouper_Add.second (k : Nat) (g : Nat) (s : GrS) (q sz at_ ca : Int) (late ecn : Bool) (w0 w : World) (hI : IsS85 w0 w g s) (hB : Below w0.heap.size w0 w) (h0 : late = false) (h1 : decide (sz < 0) = false) (h2 : decide (1500 < sz) = false) (h3 : decide (at_ < 0) = false) (h4 : decide (1125899906842624 < at_) = false) (h5 : decide (ca < -1125899906842624) = false) (h6 : decide (1125899906842624 < ca) = false) (x1 x2 x3 x4 e1 e2 : Int) (h7 : s.o = true) (h8 : decide (at_ < s.f) = false) (h9 : decide (wrap64 (at_ - s.f) ≤ s.b) = false) (h10 : s.d = some (x1, x2, x3, x4)) (A1 : sat_Sub.f k s.l x2 = some e1) (A2 : sat_Sub.f k s.c x3 = some e2) :
  Calls Tryd.prog 19 #[.pointer (some ⟨g, 0, none⟩), .agg #[.int .i64 q, .int .i64 sz, .int .i64 at_, .int .i64 ca, .bool late, .bool ecn]] w fun e w' => e = .returned (.tuple #[.agg #[.int .i64 e1, .int .i64 e2, .int .i64 (wrap64 (s.n - x4))], .bool true]) ∧ IsS85 w0 w' g ⟨at_, at_, ca, sz, true, (some (s.f, s.l, s.c, s.n)), s.b⟩ ∧ Below w0.heap.size w0 w' ∧ KeepBut w w' g none := by
 have hpn83_eql : ∀ (a_ : Addr) (W_ : World), (Go.binOp .eql 83 (.pointer (some a_)) (.pointer none)).run Tryd.prog W_ = .ok (.bool false) W_ := fun _ _ => by kernel_rfl
 have hu85 := Tryd.underlying85
 have hu82 := Tryd.underlying82
 have hu80 := Tryd.underlying80
 have hu41 := Tryd.underlying41
 have hu39 := Tryd.underlying39
 have hu67 := Tryd.underlying67
 have hpn54_eql : ∀ (a_ : Addr) (W_ : World), (Go.binOp .eql 54 (.pointer (some a_)) (.pointer none)).run Tryd.prog W_ = .ok (.bool false) W_ := fun _ _ => by kernel_rfl
 subst h0
 obtain ⟨dv, hg0⟩ := GF.of hI hB
 obtain ⟨gd, hdv, hod, hgd0⟩ : ∃ gd, dv = .pointer (some ⟨gd, 0, none⟩) ∧ w.heap[gd]? = some (.cells #[.int .i64 x1, .int .i64 x2, .int .i64 x3, .int .i64 x4] 82 (0, 0)) ∧ w0.heap.size ≤ gd := by have hh := hg0.dn; rw [h10] at hh; exact hh
 subst hdv
 have HOD := aW hod
 clear hod hgd0
 have HG := aW hg0
 have HWW := aW hB.size
 clear hg0 hI hB
 go_enter Tryd.func19, Tryd.ntmps19
 go_wp2_with (first | ((with_reducible refine gate_dst (N := 3) rfl ?_); refine box_event ?hg (N := 3) ?hd (cs := #[.int .i64 q, .int .i64 sz, .int .i64 at_, .int .i64 ca, .bool false, .bool ecn]) (t := 41) ?hr ?_; (case hd => rfl); (case hg => rfl); (case hr => first | (go_simp; done) | (go_simp; rfl)); intro ba hg w7 hbox hb; replace HOD := aW (blk_below (g := gd) (o := .cells #[.int .i64 x1, .int .i64 x2, .int .i64 x3, .int .i64 x4] 82 (0, 0)) (by (with_reducible repeat (first | refine blk_drewN ?_ _ | refine blk_drew ?_ | refine blk_alloc ?_ _)); exact HOD.out) hb); have n0_ := aW (GF.below (show GF w0 w _ g (GC s (.pointer (some ⟨gd, 0, none⟩))) s.d (.pointer (some ⟨gd, 0, none⟩)) from o66) hb); have n1_ := aW hbox; clear HG hb hbox hg; have HG := n0_; have HA := n1_; clear n0_ n1_) | ((with_reducible refine gate_dst (N := 4) rfl ?_); refine box_event ?hg (N := 4) ?hd (cs := #[.int .i64 0, .int .i64 0, .int .i64 0]) (t := 67) ?hr ?_; (case hd => rfl); (case hg => rfl); (case hr => first | (go_simp; done) | (go_simp; rfl)); intro br hg w8 hbox hb; replace HOD := aW (blk_below (g := gd) (o := .cells #[.int .i64 x1, .int .i64 x2, .int .i64 x3, .int .i64 x4] 82 (0, 0)) (by (with_reducible repeat (first | refine blk_drewN ?_ _ | refine blk_drew ?_ | refine blk_alloc ?_ _)); exact HOD.out) hb); have n2_ := aW (show w.heap.size ≤ br from by rw [hg]; exact HG.out.kp.1); have n0_ := aW (GX.mk (GF.below (show GF w0 w _ g (GC s (.pointer (some ⟨gd, 0, none⟩))) s.d (.pointer (some ⟨gd, 0, none⟩)) from o66) hb) (blk_below (g := ba) (o := .cells #[.int .i64 q, .int .i64 sz, .int .i64 at_, .int .i64 ca, .bool false, .bool ecn] 41 (0, 0)) HA.out hb) hbox n2_.out); clear HG HA hb hbox hg n2_; have HX := n0_; clear n0_; obtain ⟨ha0_, haf0_, ha1_, haf1_, ha2_, haf2_, ha3_, haf3_, ha4_, haf4_, ha5_, haf5_⟩ := bp6 HX.out.a; obtain ⟨hc0_, hcf0_, hc1_, hcf1_, hc2_, hcf2_, hc3_, hcf3_, hc4_, hcf4_, hc5_, hcf5_, hc6_, hcf6_⟩ := bp7 HX.out.f.blk; obtain ⟨hr0_, hrf0_, hr1_, hrf1_, hr2_, hrf2_⟩ := bp3 HX.out.r; rw [h7] at hc4_))
 clear ha0_ ha1_ ha2_ ha3_ ha4_ ha5_ haf0_ haf1_ haf2_ haf3_ haf4_ haf5_ hc0_ hc1_ hc2_ hc3_ hc4_ hc5_ hc6_ hcf0_ hcf1_ hcf2_ hcf3_ hcf4_ hcf5_ hcf6_ hr0_ hr1_ hr2_ hrf0_ hrf1_ hrf2_
 replace HOD := aW (blk_below HOD.out (below_drew bR))
 replace HX := aW (GX.below HX.out (below_drew bR))
 refine start_ (n := 11) (S := fun w' => w'.cell? ⟨g, 0, none⟩ = some (.int .i64 s.f) ∧ w'.cell? ⟨ba, 2, none⟩ = some (.int .i64 at_)) (ds := []) (bl 11 0) (by kernel_rfl) rfl rfl ⟨(blk_cell HX.out.f.blk 0).trans rfl, (blk_cell HX.out.a 2).trans rfl⟩ (fun hHeld => ?_); refine with_tabW group_Grouper_Add.tab6 group_Grouper_Add.bits6 (fun HT_ HW_ => ?_)
 generalize World.drew w8 = w9 at HX HOD hHeld ⊢
 refine pq_ 0 61 (bl 11 1) HT_ ?_
 refine pq_ 1 62 (bl 11 3) HT_ ?_
 refine tq_ 2 63 (bl 11 7) HT_ HW_ hHeld ?_ (hr := by rintro w' ⟨s0_, s1_⟩; go_simp; with_reducible rfl)
 refine pq_ 3 64 (bl 11 15) HT_ ?_
 refine pq_ 4 65 (bl 11 31) HT_ ?_
 refine pq_ 5 66 (bl 11 63) HT_ ?_
 refine pq_ 6 67 (bl 11 127) HT_ ?_
 refine pq_ 7 68 (bl 11 255) HT_ ?_
 refine tq_ 8 69 (bl 11 511) HT_ HW_ hHeld ?_ (hr := by rintro w' ⟨s0_, s1_⟩; go_simp; with_reducible rfl)
 refine pq_ 9 70 (bl 11 1023) HT_ ?_
 refine pq_ 10 60 (bl 11 2047) HT_ ?_
 refine done_ (done_of HT_.out (by kernel_rfl)) ?_
 clear hHeld HT_ HW_
 try go_wp2
 replace HOD := aW (blk_below HOD.out (below_drew bR))
 replace HX := aW (GX.below HX.out (below_drew bR))
 refine start_ (n := 16) (S := fun w' => w'.cell? ⟨g, 0, none⟩ = some (.int .i64 s.f) ∧ w'.cell? ⟨g, 6, none⟩ = some (.int .i64 s.b) ∧ w'.cell? ⟨ba, 2, none⟩ = some (.int .i64 at_)) (ds := []) (bl 16 0) (by kernel_rfl) rfl rfl ⟨(blk_cell HX.out.f.blk 0).trans rfl, (blk_cell HX.out.f.blk 6).trans rfl, (blk_cell HX.out.a 2).trans rfl⟩ (fun hHeld => ?_); refine with_tabW group_Grouper_Add.tab8 group_Grouper_Add.bits8 (fun HT_ HW_ => ?_)
 generalize World.drew w9 = w10 at HX HOD hHeld ⊢
 refine pq_ 0 73 (bl 16 1) HT_ ?_
 refine pq_ 1 74 (bl 16 3) HT_ ?_
 refine tq_ 2 75 (bl 16 7) HT_ HW_ hHeld ?_ (hr := by rintro w' ⟨s0_, s1_, s2_⟩; go_simp; with_reducible rfl)
 refine pq_ 3 76 (bl 16 15) HT_ ?_
 refine pq_ 4 77 (bl 16 31) HT_ ?_
 refine pq_ 5 78 (bl 16 63) HT_ ?_
 refine pq_ 6 79 (bl 16 127) HT_ ?_
 refine pq_ 7 80 (bl 16 255) HT_ ?_
 refine tq_ 8 81 (bl 16 511) HT_ HW_ hHeld ?_ (hr := by rintro w' ⟨s0_, s1_, s2_⟩; go_simp; with_reducible rfl)
 refine pq_ 9 82 (bl 16 1023) HT_ ?_
 refine pq_ 10 83 (bl 16 2047) HT_ ?_
 refine pq_ 11 84 (bl 16 4095) HT_ ?_
 refine pq_ 12 85 (bl 16 8191) HT_ ?_
 refine tq_ 13 86 (bl 16 16383) HT_ HW_ hHeld ?_ (hr := by rintro w' ⟨s0_, s1_, s2_⟩; go_simp; with_reducible rfl)
 refine pq_ 14 87 (bl 16 32767) HT_ ?_
 refine pq_ 15 72 (bl 16 65535) HT_ ?_
 refine done_ (done_of HT_.out (by kernel_rfl)) ?_
 clear hHeld HT_ HW_
 try go_wp2
 replace HOD := aW (blk_below HOD.out (below_drew bR))
 replace HX := aW (GX.below HX.out (below_drew bR))
 refine start_ (n := 11) (S := fun w' => w'.cell? ⟨g, 0, none⟩ = some (.int .i64 s.f) ∧ w'.cell? ⟨g, 1, none⟩ = some (.int .i64 s.l) ∧ w'.cell? ⟨g, 2, none⟩ = some (.int .i64 s.c) ∧ w'.cell? ⟨g, 3, none⟩ = some (.int .i64 s.n) ∧ w'.cell? ⟨g, 5, none⟩ = some ((.pointer (some ⟨gd, 0, none⟩)))) (ds := [9]) (bl 11 0) (by kernel_rfl) rfl rfl ⟨(blk_cell HX.out.f.blk 0).trans rfl, (blk_cell HX.out.f.blk 1).trans rfl, (blk_cell HX.out.f.blk 2).trans rfl, (blk_cell HX.out.f.blk 3).trans rfl, (blk_cell HX.out.f.blk 5).trans rfl⟩ (fun hHeld => ?_); refine with_tabW group_Grouper_Add.tab12 group_Grouper_Add.bits12 (fun HT_ HW_ => ?_)
 generalize World.drew w10 = w11 at HX HOD hHeld ⊢
 refine pq_ 0 130 (bl 11 1) HT_ ?_
 refine pq_ 1 131 (bl 11 3) HT_ ?_
 refine pq_ 2 132 (bl 11 7) HT_ ?_
 refine tq_ 3 133 (bl 11 15) HT_ HW_ hHeld ?_ (hr := by rintro w' ⟨s0_, s1_, s2_, s3_, s4_⟩; go_simp; with_reducible rfl)
 refine pq_ 4 134 (bl 11 31) HT_ ?_
 refine pq_ 5 135 (bl 11 63) HT_ ?_
 refine pq_ 6 136 (bl 11 127) HT_ ?_
 refine tq_ 7 137 (bl 11 255) HT_ HW_ hHeld ?_ (hr := by rintro w' ⟨s0_, s1_, s2_, s3_, s4_⟩; go_simp; with_reducible rfl)
 refine one_ (i := 8) (N := some 6) (bl 11 511) rfl rfl (one_of HT_.out (by kernel_rfl)) (by decide) (fun K hK => ?_)
 have HOD0 := HOD
 refine box_step ?hg (N := 6) ?hd (cs := #[.int .i64 0, .int .i64 0, .int .i64 0, .int .i64 0]) (t := 82) ?hr ?_; (case hd => rfl); (case hg => rfl); (case hr => first | (go_simp; done) | (go_simp; rfl))
 intro bd hgd w11a hbox hb
 replace HOD := aW (blk_below HOD.out hb)
 have HNE := aW (show gd ≠ bd from by rw [hgd]; exact Nat.ne_of_lt (blk_lt HOD0.out))
 have HBD := aW hbox
 have HBE := aW hb
 have HGD := aW hgd
 have HX0 := HX
 replace HX := aW (GX.below HX.out hb)
 clear hbox hb hgd
 refine hK.out _ _ ⟨(blk_cell HX.out.f.blk 0).trans rfl, (blk_cell HX.out.f.blk 1).trans rfl, (blk_cell HX.out.f.blk 2).trans rfl, (blk_cell HX.out.f.blk 3).trans rfl, (blk_cell HX.out.f.blk 5).trans rfl⟩ (fun hHeld => ?_)
 clear hK K
 refine no_ 6 ?_
 refine last_ (i := 9) (N := none) (bl 11 1023) rfl rfl (one_of HT_.out (by kernel_rfl)) (by decide) (fun K hK => ?_)
 obtain ⟨hs0_, hsf0_, hs1_, hsf1_, hs2_, hsf2_, hs3_, hsf3_⟩ := bp4 HBD.out
 refine skip_ (w1 := ?_) (by rfl) rfl ?_ ?_
 rotate_left
 ·go_simp
  rfl
 clear hs0_ hsf0_ hs1_ hsf1_ hs2_ hsf2_ hs3_ hsf3_
 have hb4 : Below w11.heap.size w11 ((((w11a.setCell ⟨bd, 0, none⟩ (.int .i64 s.f)).setCell ⟨bd, 1, none⟩ (.int .i64 s.l)).setCell ⟨bd, 2, none⟩ (.int .i64 s.c)).setCell ⟨bd, 3, none⟩ (.int .i64 s.n)) := below_set (below_set (below_set (below_set HBE.out (Nat.le_of_eq HGD.out.symm)) (Nat.le_of_eq HGD.out.symm)) (Nat.le_of_eq HGD.out.symm)) (Nat.le_of_eq HGD.out.symm)
 have hd4 : ((((w11a.setCell ⟨bd, 0, none⟩ (.int .i64 s.f)).setCell ⟨bd, 1, none⟩ (.int .i64 s.l)).setCell ⟨bd, 2, none⟩ (.int .i64 s.c)).setCell ⟨bd, 3, none⟩ (.int .i64 s.n)).heap[bd]? = some (.cells #[.int .i64 s.f, .int .i64 s.l, .int .i64 s.c, .int .i64 s.n] 82 (0, 0)) := blk_put (cs := #[.int .i64 s.f, .int .i64 s.l, .int .i64 s.c, .int .i64 0]) (blk_put (cs := #[.int .i64 s.f, .int .i64 s.l, .int .i64 0, .int .i64 0]) (blk_put (cs := #[.int .i64 s.f, .int .i64 0, .int .i64 0, .int .i64 0]) (blk_put (cs := #[.int .i64 0, .int .i64 0, .int .i64 0, .int .i64 0]) HBD.out 0 _ rfl) 1 _ rfl) 2 _ rfl) 3 _ rfl
 replace HOD := aW (show ((((w11a.setCell ⟨bd, 0, none⟩ (.int .i64 s.f)).setCell ⟨bd, 1, none⟩ (.int .i64 s.l)).setCell ⟨bd, 2, none⟩ (.int .i64 s.c)).setCell ⟨bd, 3, none⟩ (.int .i64 s.n)).heap[gd]? = some (Obj.cells #[.int .i64 x1, .int .i64 x2, .int .i64 x3, .int .i64 x4] 82 (0, 0)) from blk_far (blk_far (blk_far (blk_far HOD.out (p := ⟨bd, 0, none⟩) HNE.out _) (p := ⟨bd, 1, none⟩) HNE.out _) (p := ⟨bd, 2, none⟩) HNE.out _) (p := ⟨bd, 3, none⟩) HNE.out _)
 clear HX HBD HBE
 have HX := aW (GX.below HX0.out hb4)
 have HBD := aW hd4
 have HGW := aW (show w.heap.size ≤ bd from by rw [HGD.out]; exact HX0.out.f.kp.1)
 clear HX0 hb4 hd4 HGD
 generalize ((((w11a.setCell ⟨bd, 0, none⟩ (.int .i64 s.f)).setCell ⟨bd, 1, none⟩ (.int .i64 s.l)).setCell ⟨bd, 2, none⟩ (.int .i64 s.c)).setCell ⟨bd, 3, none⟩ (.int .i64 s.n)) = w11b at HX HBD HOD ⊢
 refine hK.out _ _ ?_
 clear hK K
 refine pq_ 10 7 (bl 11 2047) HT_ ?_
 refine done_ (done_of HT_.out (by kernel_rfl)) ?_
 clear hHeld HT_ HW_
 have hs5_ : w11b.cell? ⟨g, 5, none⟩ = some ((.pointer (some ⟨gd, 0, none⟩))) := (blk_cell HX.out.f.blk 5).trans rfl
 have hsf5_ := blk_frozen HX.out.f.blk 5
 have hbg_ : ba ≠ g := bkt HX.out.a HX.out.f.blk (by decide)
 have hne1_ : (ba = g) = False := eq_false hbg_
 have hne2_ : (g = ba) = False := eq_false (Ne.symm hbg_)
 obtain ⟨ha0_, haf0_, ha1_, haf1_, ha2_, haf2_, ha3_, haf3_, ha4_, haf4_, ha5_, haf5_⟩ := bp6 HX.out.a
 go_wp2_with (first | (go_at_call 31; (with_reducible refine (group_Grouper_begins.calls g (⟨s.f, s.l, s.c, s.n, s.o, (some (s.f, s.l, s.c, s.n)), s.b⟩ : GrS) q sz at_ ca false ecn w0 _ ?side1 ?side2).mono ?_); (case side1 => exact (fun (h : GX w0 w _ g ba br (GC (⟨s.f, s.l, s.c, s.n, s.o, (some (s.f, s.l, s.c, s.n)), s.b⟩ : GrS) (.pointer (some ⟨bd, 0, none⟩))) (some (s.f, s.l, s.c, s.n)) (.pointer (some ⟨bd, 0, none⟩)) #[.int .i64 q, .int .i64 sz, .int .i64 at_, .int .i64 ca, .bool false, .bool ecn] #[.int .i64 0, .int .i64 0, .int .i64 0]) => (⟨_, h.f.blk, h.f.ge, h.f.dn⟩ : IsS85 w0 _ g _)) (show GX w0 w _ g ba br (GC (⟨s.f, s.l, s.c, s.n, s.o, (some (s.f, s.l, s.c, s.n)), s.b⟩ : GrS) (.pointer (some ⟨bd, 0, none⟩))) (some (s.f, s.l, s.c, s.n)) (.pointer (some ⟨bd, 0, none⟩)) #[.int .i64 q, .int .i64 sz, .int .i64 at_, .int .i64 ca, .bool false, .bool ecn] #[.int .i64 0, .int .i64 0, .int .i64 0] from ⟨⟨blk_put HX.out.f.blk 5 _ rfl, HX.out.f.ge, HX.out.f.lt, ⟨bd, rfl, far_t HBD.out HX.out.f.blk (by decide), Nat.le_trans HWW.out HGW.out⟩, below_set HX.out.f.bel HX.out.f.ge, HX.out.f.kp.set_ 5 _⟩, far_t HX.out.a HX.out.f.blk (by decide), far_t HX.out.r HX.out.f.blk (by decide), HX.out.rn⟩)); (case side2 => exact (fun (h : GX w0 w _ g ba br (GC (⟨s.f, s.l, s.c, s.n, s.o, (some (s.f, s.l, s.c, s.n)), s.b⟩ : GrS) (.pointer (some ⟨bd, 0, none⟩))) (some (s.f, s.l, s.c, s.n)) (.pointer (some ⟨bd, 0, none⟩)) #[.int .i64 q, .int .i64 sz, .int .i64 at_, .int .i64 ca, .bool false, .bool ecn] #[.int .i64 0, .int .i64 0, .int .i64 0]) => h.f.bel) (show GX w0 w _ g ba br (GC (⟨s.f, s.l, s.c, s.n, s.o, (some (s.f, s.l, s.c, s.n)), s.b⟩ : GrS) (.pointer (some ⟨bd, 0, none⟩))) (some (s.f, s.l, s.c, s.n)) (.pointer (some ⟨bd, 0, none⟩)) #[.int .i64 q, .int .i64 sz, .int .i64 at_, .int .i64 ca, .bool false, .bool ecn] #[.int .i64 0, .int .i64 0, .int .i64 0] from ⟨⟨blk_put HX.out.f.blk 5 _ rfl, HX.out.f.ge, HX.out.f.lt, ⟨bd, rfl, far_t HBD.out HX.out.f.blk (by decide), Nat.le_trans HWW.out HGW.out⟩, below_set HX.out.f.bel HX.out.f.ge, HX.out.f.kp.set_ 5 _⟩, far_t HX.out.a HX.out.f.blk (by decide), far_t HX.out.r HX.out.f.blk (by decide), HX.out.rn⟩)); rintro e w12 ⟨rfl, hi, hb, hk⟩; have n3_ := aW (kb_at hk (far_t HBD.out HX.out.f.blk (by decide)) (bkt (far_t HBD.out HX.out.f.blk (by decide)) (show GX w0 w _ g ba br (GC (⟨s.f, s.l, s.c, s.n, s.o, (some (s.f, s.l, s.c, s.n)), s.b⟩ : GrS) (.pointer (some ⟨bd, 0, none⟩))) (some (s.f, s.l, s.c, s.n)) (.pointer (some ⟨bd, 0, none⟩)) #[.int .i64 q, .int .i64 sz, .int .i64 at_, .int .i64 ca, .bool false, .bool ecn] #[.int .i64 0, .int .i64 0, .int .i64 0] from ⟨⟨blk_put HX.out.f.blk 5 _ rfl, HX.out.f.ge, HX.out.f.lt, ⟨bd, rfl, far_t HBD.out HX.out.f.blk (by decide), Nat.le_trans HWW.out HGW.out⟩, below_set HX.out.f.bel HX.out.f.ge, HX.out.f.kp.set_ 5 _⟩, far_t HX.out.a HX.out.f.blk (by decide), far_t HX.out.r HX.out.f.blk (by decide), HX.out.rn⟩).f.blk (by decide))); have n4_ := aW (kb_at hk (far_t HOD.out HX.out.f.blk (by decide)) (bkt (far_t HOD.out HX.out.f.blk (by decide)) (show GX w0 w _ g ba br (GC (⟨s.f, s.l, s.c, s.n, s.o, (some (s.f, s.l, s.c, s.n)), s.b⟩ : GrS) (.pointer (some ⟨bd, 0, none⟩))) (some (s.f, s.l, s.c, s.n)) (.pointer (some ⟨bd, 0, none⟩)) #[.int .i64 q, .int .i64 sz, .int .i64 at_, .int .i64 ca, .bool false, .bool ecn] #[.int .i64 0, .int .i64 0, .int .i64 0] from ⟨⟨blk_put HX.out.f.blk 5 _ rfl, HX.out.f.ge, HX.out.f.lt, ⟨bd, rfl, far_t HBD.out HX.out.f.blk (by decide), Nat.le_trans HWW.out HGW.out⟩, below_set HX.out.f.bel HX.out.f.ge, HX.out.f.kp.set_ 5 _⟩, far_t HX.out.a HX.out.f.blk (by decide), far_t HX.out.r HX.out.f.blk (by decide), HX.out.rn⟩).f.blk (by decide))); obtain ⟨dv1, hx1⟩ := GX.begun (show GX w0 w _ g ba br (GC (⟨s.f, s.l, s.c, s.n, s.o, (some (s.f, s.l, s.c, s.n)), s.b⟩ : GrS) (.pointer (some ⟨bd, 0, none⟩))) (some (s.f, s.l, s.c, s.n)) (.pointer (some ⟨bd, 0, none⟩)) #[.int .i64 q, .int .i64 sz, .int .i64 at_, .int .i64 ca, .bool false, .bool ecn] #[.int .i64 0, .int .i64 0, .int .i64 0] from ⟨⟨blk_put HX.out.f.blk 5 _ rfl, HX.out.f.ge, HX.out.f.lt, ⟨bd, rfl, far_t HBD.out HX.out.f.blk (by decide), Nat.le_trans HWW.out HGW.out⟩, below_set HX.out.f.bel HX.out.f.ge, HX.out.f.kp.set_ 5 _⟩, far_t HX.out.a HX.out.f.blk (by decide), far_t HX.out.r HX.out.f.blk (by decide), HX.out.rn⟩) hi hb hk; clear HX HBD HOD hi hb hk; have HX := aW hx1; have HBD := n3_; have HOD := n4_; clear hx1 n3_ n4_; obtain ⟨hq0_, hqf0_, hq1_, hqf1_, hq2_, hqf2_⟩ := bp3 HX.out.r; skip))
 clear hq0_ hqf0_ hq1_ hqf1_ hq2_ hqf2_
 replace HX := aW (GX.below HX.out (below_drew bR))
 replace HOD := aW (blk_below HOD.out (below_drew bR)); replace HBD := aW (blk_below HBD.out (below_drew bR))
 refine start_ (n := 28) (S := fun w' => w'.cell? ⟨bd, 1, none⟩ = some (.int .i64 s.l) ∧ w'.cell? ⟨bd, 2, none⟩ = some (.int .i64 s.c) ∧ w'.cell? ⟨bd, 3, none⟩ = some (.int .i64 s.n) ∧ w'.cell? ⟨gd, 1, none⟩ = some (.int .i64 x2) ∧ w'.cell? ⟨gd, 2, none⟩ = some (.int .i64 x3) ∧ w'.cell? ⟨gd, 3, none⟩ = some (.int .i64 x4)) (ds := [26]) (bl 28 0) (by kernel_rfl) rfl rfl ⟨(blk_cell HBD.out 1).trans rfl, (blk_cell HBD.out 2).trans rfl, (blk_cell HBD.out 3).trans rfl, (blk_cell HOD.out 1).trans rfl, (blk_cell HOD.out 2).trans rfl, (blk_cell HOD.out 3).trans rfl⟩ (fun hHeld => ?_); refine with_tabW group_Grouper_Add.tab17 group_Grouper_Add.bits17 (fun HT_ HW_ => ?_)
 generalize World.drew w12 = w13 at HX HBD HOD hHeld ⊢
 refine pq_ 0 147 (bl 28 1) HT_ ?_
 refine pq_ 1 148 (bl 28 3) HT_ ?_
 refine tq_ 2 149 (bl 28 7) HT_ HW_ hHeld ?_ (hr := by rintro w' ⟨s0_, s1_, s2_, s3_, s4_, s5_⟩; go_simp; with_reducible rfl)
 refine pq_ 3 150 (bl 28 15) HT_ ?_
 refine pq_ 4 151 (bl 28 31) HT_ ?_
 refine pq_ 5 152 (bl 28 63) HT_ ?_
 refine pq_ 6 153 (bl 28 127) HT_ ?_
 refine tq_ 7 154 (bl 28 255) HT_ HW_ hHeld ?_ (hr := by rintro w' ⟨s0_, s1_, s2_, s3_, s4_, s5_⟩; go_simp; with_reducible rfl)
 refine pq_ 9 156 (bl 28 767) HT_ ?_
 refine pq_ 10 157 (bl 28 1791) HT_ ?_
 refine tq_ 11 158 (bl 28 3839) HT_ HW_ hHeld ?_ (hr := by rintro w' ⟨s0_, s1_, s2_, s3_, s4_, s5_⟩; go_simp; with_reducible rfl)
 refine pq_ 12 159 (bl 28 7935) HT_ ?_
 refine pq_ 13 160 (bl 28 16127) HT_ ?_
 refine pq_ 14 161 (bl 28 32511) HT_ ?_
 refine pq_ 15 162 (bl 28 65279) HT_ ?_
 refine tq_ 16 163 (bl 28 130815) HT_ HW_ hHeld ?_ (hr := by rintro w' ⟨s0_, s1_, s2_, s3_, s4_, s5_⟩; go_simp; with_reducible rfl)
 refine pq_ 18 165 (bl 28 392959) HT_ ?_
 refine tq_ 19 166 (bl 28 917247) HT_ HW_ hHeld ?_ (hr := by rintro w' ⟨s0_, s1_, s2_, s3_, s4_, s5_⟩; go_simp; with_reducible rfl)
 refine pq_ 20 167 (bl 28 1965823) HT_ ?_
 refine pq_ 21 168 (bl 28 4062975) HT_ ?_
 refine pq_ 22 169 (bl 28 8257279) HT_ ?_
 refine tq_ 23 170 (bl 28 16645887) HT_ HW_ hHeld ?_ (hr := by rintro w' ⟨s0_, s1_, s2_, s3_, s4_, s5_⟩; go_simp; with_reducible rfl)
 refine pq_ 24 171 (bl 28 33423103) HT_ ?_
 refine one_ (i := 8) (N := some 155) (bl 28 33423359) rfl rfl (one_of HT_.out (by kernel_rfl)) (by decide) (fun K hK => ?_)
 refine gD_ Tryd.func24 #[.int .i64 s.l, .int .i64 x2] ?_
 with_reducible refine (sat_Sub.calls k s.l x2 e1 _ A1).mono ?_
 rintro e w14 ⟨rfl, hb⟩
 refine ⟨_, rfl, ?_⟩
 replace HOD := aW (blk_below HOD.out hb); replace HBD := aW (blk_below HBD.out hb); replace HX := aW (GX.below HX.out hb); clear hb
 refine hK.out _ _ ⟨(blk_cell HBD.out 1).trans rfl, (blk_cell HBD.out 2).trans rfl, (blk_cell HBD.out 3).trans rfl, (blk_cell HOD.out 1).trans rfl, (blk_cell HOD.out 2).trans rfl, (blk_cell HOD.out 3).trans rfl⟩ (fun hHeld => ?_)
 clear hK K
 refine no_ 155 ?_
 refine one_ (i := 17) (N := some 164) (bl 28 33554431) rfl rfl (one_of HT_.out (by kernel_rfl)) (by decide) (fun K hK => ?_)
 refine gD_ Tryd.func24 #[.int .i64 s.c, .int .i64 x3] ?_
 with_reducible refine (sat_Sub.calls k s.c x3 e2 _ A2).mono ?_
 rintro e w15 ⟨rfl, hb⟩
 refine ⟨_, rfl, ?_⟩
 replace HOD := aW (blk_below HOD.out hb); replace HBD := aW (blk_below HBD.out hb); replace HX := aW (GX.below HX.out hb); clear hb
 refine hK.out _ _ ⟨(blk_cell HBD.out 1).trans rfl, (blk_cell HBD.out 2).trans rfl, (blk_cell HBD.out 3).trans rfl, (blk_cell HOD.out 1).trans rfl, (blk_cell HOD.out 2).trans rfl, (blk_cell HOD.out 3).trans rfl⟩ (fun hHeld => ?_)
 clear hK K
 refine no_ 164 ?_
 refine pq_ 25 172 (bl 28 67108863) HT_ ?_
 refine last_ (i := 26) (N := none) (bl 28 134217727) rfl rfl (one_of HT_.out (by kernel_rfl)) (by decide) (fun K hK => ?_)
 obtain ⟨hq0_, hqf0_, hq1_, hqf1_, hq2_, hqf2_⟩ := bp3 HX.out.r
 refine skip_ (w1 := ?_) (by rfl) rfl ?_ ?_
 rotate_left
 ·go_simp
  rfl
 have key : GX w0 w (((w15.setCell ⟨br, 0, none⟩ (.int .i64 e1)).setCell ⟨br, 1, none⟩ (.int .i64 e2)).setCell ⟨br, 2, none⟩ (.int .i64 (wrap64 (s.n - x4)))) g ba br (GC (⟨at_, at_, ca, sz, true, (some (s.f, s.l, s.c, s.n)), s.b⟩ : GrS) dv1) (some (s.f, s.l, s.c, s.n)) dv1 #[.int .i64 q, .int .i64 sz, .int .i64 at_, .int .i64 ca, .bool false, .bool ecn] #[.int .i64 e1, .int .i64 e2, .int .i64 (wrap64 (s.n - x4))] := GX.setr (rs := #[.int .i64 e1, .int .i64 e2, .int .i64 0]) (GX.setr (rs := #[.int .i64 e1, .int .i64 0, .int .i64 0]) (GX.setr (rs := #[.int .i64 0, .int .i64 0, .int .i64 0]) HX.out HWW.out 0 _ rfl) HWW.out 1 _ rfl) HWW.out 2 _ rfl
 clear hq0_ hqf0_ hq1_ hqf1_ hq2_ hqf2_
 clear HX
 have HX := aW key
 clear key
 generalize (((w15.setCell ⟨br, 0, none⟩ (.int .i64 e1)).setCell ⟨br, 1, none⟩ (.int .i64 e2)).setCell ⟨br, 2, none⟩ (.int .i64 (wrap64 (s.n - x4)))) = w16 at HX ⊢
 refine hK.out _ _ ?_
 clear hK K
 refine pq_ 27 5 (bl 28 268435455) HT_ ?_
 refine done_ (done_of HT_.out (by kernel_rfl)) ?_
 clear hHeld HT_ HW_
 try go_wp2
 have key := HX.out
 refine bodyPost_ret (results_row_tmp rfl _ _ br 67 #[.int .i64 e1, .int .i64 e2, .int .i64 (wrap64 (s.n - x4))] (0, 0) _ rfl key.r Tryd.underlying67 rfl (by kernel_rfl)) rfl ?_
 exact ⟨rfl, ⟨dv1, key.f.blk, key.f.ge, key.f.dn⟩, key.f.bel, key.f.kp⟩
set_option maxHeartbeats 16000000 in
set_option maxRecDepth 100000 in
theorem group_Grouper_Add.calls (k : Nat) (g : Nat) (s : GrS) (q sz at_ ca : Int) (late ecn : Bool) (d1 d2 d3 : Int) (b : Bool) (s' : GrS) (w0 w : World) (hI : IsS85 w0 w g s) (hB : Below w0.heap.size w0 w) (h : group_Grouper_Add.f k s sz at_ ca late = some ((d1, d2, d3), b, s')) :
  Calls Tryd.prog 19 #[.pointer (some ⟨g, 0, none⟩), .agg #[.int .i64 q, .int .i64 sz, .int .i64 at_, .int .i64 ca, .bool late, .bool ecn]] w fun e w' => e = .returned (.tuple #[.agg #[.int .i64 d1, .int .i64 d2, .int .i64 d3], .bool b]) ∧ IsS85 w0 w' g s' ∧ Below w0.heap.size w0 w' ∧ KeepBut w w' g none := by
 unfold group_Grouper_Add.f at h
 have inj : ∀ {a : Int × Int × Int} {c : Bool} {t : GrS}, some (a, c, t) = some ((d1, d2, d3), b, s') → d1 = a.1 ∧ d2 = a.2.1 ∧ d3 = a.2.2 ∧ b = c ∧ s' = t := by
  intro a c t e
  simp only [Option.some.injEq, Prod.mk.injEq] at e
  obtain ⟨rfl, rfl, rfl⟩ := e
  exact ⟨rfl, rfl, rfl, rfl, rfl⟩
 by_cases c0 : late = true
 ·rw [if_pos c0] at h; obtain ⟨rfl, rfl, rfl, rfl, rfl⟩ := inj h
  exact group_Grouper_Add.bad0 k g _ q sz at_ ca late ecn w0 w hI hB  c0
 rw [if_neg c0] at h
 have k0 := Bool.eq_false_iff.mpr c0
 by_cases c1 : sz < 0
 ·rw [if_pos c1] at h; obtain ⟨rfl, rfl, rfl, rfl, rfl⟩ := inj h
  exact group_Grouper_Add.bad1 k g _ q sz at_ ca late ecn w0 w hI hB k0 (decide_eq_true c1)
 rw [if_neg c1] at h
 have k1 := decide_eq_false c1
 by_cases c2 : 1500 < sz
 ·rw [if_pos c2] at h; obtain ⟨rfl, rfl, rfl, rfl, rfl⟩ := inj h
  exact group_Grouper_Add.bad2 k g _ q sz at_ ca late ecn w0 w hI hB k0 k1 (decide_eq_true c2)
 rw [if_neg c2] at h
 have k2 := decide_eq_false c2
 by_cases c3 : at_ < 0
 ·rw [if_pos c3] at h; obtain ⟨rfl, rfl, rfl, rfl, rfl⟩ := inj h
  exact group_Grouper_Add.bad3 k g _ q sz at_ ca late ecn w0 w hI hB k0 k1 k2 (decide_eq_true c3)
 rw [if_neg c3] at h
 have k3 := decide_eq_false c3
 by_cases c4 : 1125899906842624 < at_
 ·rw [if_pos c4] at h; obtain ⟨rfl, rfl, rfl, rfl, rfl⟩ := inj h
  exact group_Grouper_Add.bad4 k g _ q sz at_ ca late ecn w0 w hI hB k0 k1 k2 k3 (decide_eq_true c4)
 rw [if_neg c4] at h
 have k4 := decide_eq_false c4
 by_cases c5 : ca < -1125899906842624
 ·rw [if_pos c5] at h; obtain ⟨rfl, rfl, rfl, rfl, rfl⟩ := inj h
  exact group_Grouper_Add.bad5 k g _ q sz at_ ca late ecn w0 w hI hB k0 k1 k2 k3 k4 (decide_eq_true c5)
 rw [if_neg c5] at h
 have k5 := decide_eq_false c5
 by_cases c6 : 1125899906842624 < ca
 ·rw [if_pos c6] at h; obtain ⟨rfl, rfl, rfl, rfl, rfl⟩ := inj h
  exact group_Grouper_Add.bad6 k g _ q sz at_ ca late ecn w0 w hI hB k0 k1 k2 k3 k4 k5 (decide_eq_true c6)
 rw [if_neg c6] at h
 have k6 := decide_eq_false c6
 by_cases c7 : s.o = false
 ·rw [if_pos c7] at h; obtain ⟨rfl, rfl, rfl, rfl, rfl⟩ := inj h
  exact group_Grouper_Add.opens k g _ q sz at_ ca late ecn w0 w hI hB k0 k1 k2 k3 k4 k5 k6 c7
 rw [if_neg c7] at h
 have k7 : s.o = true := by simpa using c7
 by_cases c8 : at_ < s.f
 ·rw [if_pos c8] at h; obtain ⟨rfl, rfl, rfl, rfl, rfl⟩ := inj h
  exact group_Grouper_Add.early k g _ q sz at_ ca late ecn w0 w hI hB k0 k1 k2 k3 k4 k5 k6 k7 (decide_eq_true c8)
 rw [if_neg c8] at h
 by_cases c9 : wrap64 (at_ - s.f) ≤ s.b
 ·rw [if_pos c9] at h; obtain ⟨rfl, rfl, rfl, rfl, rfl⟩ := inj h
  exact group_Grouper_Add.goes k g _ q sz at_ ca late ecn w0 w hI hB k0 k1 k2 k3 k4 k5 k6 k7 (decide_eq_false c8) (decide_eq_true c9)
 rw [if_neg c9] at h
 cases hd : s.d with
 | none =>
  rw [hd] at h; obtain ⟨rfl, rfl, rfl, rfl, rfl⟩ := inj h
  exact group_Grouper_Add.first k g _ q sz at_ ca late ecn w0 w hI hB k0 k1 k2 k3 k4 k5 k6 k7 (decide_eq_false c8) (decide_eq_false c9) hd
 | some x =>
  rw [hd] at h; obtain ⟨x1, x2, x3, x4⟩ := x
  obtain ⟨e1, A1, h⟩ := Option.bind_eq_some_iff.mp h
  obtain ⟨e2, A2, h⟩ := Option.bind_eq_some_iff.mp h
  obtain ⟨rfl, rfl, rfl, rfl, rfl⟩ := inj h
  exact group_Grouper_Add.second k g _ q sz at_ ca late ecn w0 w hI hB k0 k1 k2 k3 k4 k5 k6 x1 x2 x3 x4 _ _ k7 (decide_eq_false c8) (decide_eq_false c9) hd A1 A2
end Go.Proofs.YtphgeljglhjamaaDoor.P
end

-- PUT TOGETHER by a program of this session: of the claim's texts, what is used
import Derived.Test.YtphgeljglhjamaaDoorKGccNone0
import Derived.Test.YtphgeljglhjamaaDoorKGccNone1
import Derived.Test.YtphgeljglhjamaaDoorKGccNone2
import Derived.Test.YtphgeljglhjamaaDoorKGccNone3
import Derived.Test.YtphgeljglhjamaaDoorKGccNone4
import Derived.Test.YtphgeljglhjamaaDoorKGccNone5
import Derived.Test.YtphgeljglhjamaaDoorKGccNone6
import Derived.Test.YtphgeljglhjamaaDoorKGccNone7
import Derived.Test.YtphgeljglhjamaaDoorProg
import Derived.Below
import Derived.Deep.Draws
import Derived.Deep.AppendLies
import Derived.Maps.AppendAt
import Derived.OwnWalk
import Derived.Laws.BytesArg
import Derived.Laws.MakeOwn
import Derived.Laws.OwnMore
import Derived.Deep.OwnRows
import Derived.Tactics
import Derived.Lib.ConvBytes
import Derived.Laws.Slices
import Derived.WalkKit
import Derived.KernelRfl
import Derived.RowKit3
import Derived.Deep.LoopGhost
import Derived.Deep.QuietTactic
import Derived.BigQuiet
import Derived.WideLaws
import Derived.Deep.DeepCutAuto
import Derived.Deep.CutBlock
import Derived.Deep.RegionHeld3
import Derived.Laws.Rows
import Derived.Lib.AppendStr
import Derived.ArgAppend
import Derived.Laws.IdiomCopy
import Derived.OrdersHeld
import Derived.Laws.BitsLemmas
import Derived.RowKit
import Derived.Laws.Externs
import Derived.Lib.Mul64
section
namespace Go.Proofs.YtphgeljglhjamaaDoor.P
open Go.RowKit Go.Proofs.YtphgeljglhjamaaDoorW.PrintWords Go.Proofs.YtphgeljglhjamaaDoorW.PrintLast Go.Proofs.YtphgeljglhjamaaDoorW.PrintMore
attribute [local go_sem] max2_int min2_int max_two min_two max_three min_three max_four min_four   -- for this text's walks alone
set_option linter.unusedVariables false
set_option linter.unusedSimpArgs false
def errW : Option Int → Value
 | none => .nilIface
 | some c => .iface 0 (.int .i64 c)
theorem errW_none : errW none = .nilIface := rfl
theorem errW_some (c : Int) : errW (some c) = .iface 0 (.int .i64 c) := rfl
structure S39 where
 f0 : Int
 f1 : Int
 f2 : Int
def k39 : Kd S39 := Kd.iso (Kd.pair (Kd.int .i64) (Kd.pair (Kd.int .i64) (Kd.int .i64))) (fun x : S39 => (x.f0, x.f1, x.f2))
structure S41 where
 f0 : S39
 f1 : Int
 f2 : Bool
 f3 : Bool
def k41 : Kd S41 := Kd.iso (Kd.pair k39 (Kd.pair (Kd.int .i64) (Kd.pair Kd.bool Kd.bool))) (fun x : S41 => (x.f0, x.f1, x.f2, x.f3))
end Go.Proofs.YtphgeljglhjamaaDoor.P
end

section
namespace Go.Proofs.YtphgeljglhjamaaDoor.P
open Go.RowKit Go.Proofs.YtphgeljglhjamaaDoorW.PrintWords Go.Proofs.YtphgeljglhjamaaDoorW.PrintLast Go.Proofs.YtphgeljglhjamaaDoorW.PrintMore
attribute [local go_sem] max2_int min2_int max_two min_two max_three min_three max_four min_four   -- for this text's walks alone
set_option linter.unusedVariables false
set_option linter.unusedSimpArgs false
def IsS76 (w0 W : World) (g : Nat) (f0 : Int) (f1 : Int) (f2 : Int) (f3 : Int) (f4 : Bool) (f5 : Int) (f6 : Int) (f7 : Bool) (f8 : Int) : Prop := W.heap[g]? = some (.cells #[.int .i64 f0, .int .i64 f1, .int .i64 f2, .int .i64 f3, .bool f4, .int .i64 f5, .int .i64 f6, .bool f7, .int .i64 f8] 76 (0, 0)) ∧ w0.heap.size ≤ g
theorem IsS76.grown {w0 W : World} {g : Nat} {f0 : Int} {f1 : Int} {f2 : Int} {f3 : Int} {f4 : Bool} {f5 : Int} {f6 : Int} {f7 : Bool} {f8 : Int} {W1 : World} {row : Option Nat} (h : IsS76 w0 W g f0 f1 f2 f3 f4 f5 f6 f7 f8) (hw : W.grownBy W1 row) (hne : some g ≠ row) : IsS76 w0 W1 g f0 f1 f2 f3 f4 f5 f6 f7 f8 := by
 obtain ⟨hb, hg⟩ := h
 exact ⟨blk_grown hb hw hne, hg⟩
theorem IsS76.blk {w0 W : World} {g : Nat} {f0 : Int} {f1 : Int} {f2 : Int} {f3 : Int} {f4 : Bool} {f5 : Int} {f6 : Int} {f7 : Bool} {f8 : Int} (h : IsS76 w0 W g f0 f1 f2 f3 f4 f5 f6 f7 f8) : ∃ cs, W.heap[g]? = some (.cells cs 76 (0, 0)) := by
 obtain ⟨hb, hg⟩ := h
 exact ⟨_, hb⟩
theorem IsS76.below {w0 W : World} {g : Nat} {f0 : Int} {f1 : Int} {f2 : Int} {f3 : Int} {f4 : Bool} {f5 : Int} {f6 : Int} {f7 : Bool} {f8 : Int} {W1 : World} (h : IsS76 w0 W g f0 f1 f2 f3 f4 f5 f6 f7 f8) (hw : Below W.heap.size W W1) : IsS76 w0 W1 g f0 f1 f2 f3 f4 f5 f6 f7 f8 := h.grown (grown_of_below hw none) (by simp)
theorem IsS76.alloc {w0 W : World} {g : Nat} {f0 : Int} {f1 : Int} {f2 : Int} {f3 : Int} {f4 : Bool} {f5 : Int} {f6 : Int} {f7 : Bool} {f8 : Int} (h : IsS76 w0 W g f0 f1 f2 f3 f4 f5 f6 f7 f8) (o : Obj) : IsS76 w0 (W.alloc o) g f0 f1 f2 f3 f4 f5 f6 f7 f8 := h.below (below_alloc (Below.refl _ _) o)
theorem IsS76.drewN {w0 W : World} {g : Nat} {f0 : Int} {f1 : Int} {f2 : Int} {f3 : Int} {f4 : Bool} {f5 : Int} {f6 : Int} {f7 : Bool} {f8 : Int} (h : IsS76 w0 W g f0 f1 f2 f3 f4 f5 f6 f7 f8) (m : Nat) : IsS76 w0 (W.drewN m) g f0 f1 f2 f3 f4 f5 f6 f7 f8 := h
theorem IsS76.drew {w0 W : World} {g : Nat} {f0 : Int} {f1 : Int} {f2 : Int} {f3 : Int} {f4 : Bool} {f5 : Int} {f6 : Int} {f7 : Bool} {f8 : Int} (h : IsS76 w0 W g f0 f1 f2 f3 f4 f5 f6 f7 f8) : IsS76 w0 W.drew g f0 f1 f2 f3 f4 f5 f6 f7 f8 := h
theorem IsS76.ge {w0 W : World} {g : Nat} {f0 : Int} {f1 : Int} {f2 : Int} {f3 : Int} {f4 : Bool} {f5 : Int} {f6 : Int} {f7 : Bool} {f8 : Int} (h : IsS76 w0 W g f0 f1 f2 f3 f4 f5 f6 f7 f8) : w0.heap.size ≤ g := by
 obtain ⟨hb, hg⟩ := h
 exact hg
theorem IsS76.cell_0 {w0 W : World} {g : Nat} {f0 : Int} {f1 : Int} {f2 : Int} {f3 : Int} {f4 : Bool} {f5 : Int} {f6 : Int} {f7 : Bool} {f8 : Int} (h : IsS76 w0 W g f0 f1 f2 f3 f4 f5 f6 f7 f8) : W.cell? ⟨g, 0, none⟩ = some (.int .i64 f0) := by
 obtain ⟨hb, hg⟩ := h
 exact (blk_cell hb 0).trans rfl
theorem IsS76.froz_0 {w0 W : World} {g : Nat} {f0 : Int} {f1 : Int} {f2 : Int} {f3 : Int} {f4 : Bool} {f5 : Int} {f6 : Int} {f7 : Bool} {f8 : Int} (h : IsS76 w0 W g f0 f1 f2 f3 f4 f5 f6 f7 f8) : W.frozen? ⟨g, 0, none⟩ = false := by
 obtain ⟨hb, hg⟩ := h
 exact blk_frozen hb 0
theorem IsS76.cell_1 {w0 W : World} {g : Nat} {f0 : Int} {f1 : Int} {f2 : Int} {f3 : Int} {f4 : Bool} {f5 : Int} {f6 : Int} {f7 : Bool} {f8 : Int} (h : IsS76 w0 W g f0 f1 f2 f3 f4 f5 f6 f7 f8) : W.cell? ⟨g, 1, none⟩ = some (.int .i64 f1) := by
 obtain ⟨hb, hg⟩ := h
 exact (blk_cell hb 1).trans rfl
theorem IsS76.froz_1 {w0 W : World} {g : Nat} {f0 : Int} {f1 : Int} {f2 : Int} {f3 : Int} {f4 : Bool} {f5 : Int} {f6 : Int} {f7 : Bool} {f8 : Int} (h : IsS76 w0 W g f0 f1 f2 f3 f4 f5 f6 f7 f8) : W.frozen? ⟨g, 1, none⟩ = false := by
 obtain ⟨hb, hg⟩ := h
 exact blk_frozen hb 1
theorem IsS76.cell_2 {w0 W : World} {g : Nat} {f0 : Int} {f1 : Int} {f2 : Int} {f3 : Int} {f4 : Bool} {f5 : Int} {f6 : Int} {f7 : Bool} {f8 : Int} (h : IsS76 w0 W g f0 f1 f2 f3 f4 f5 f6 f7 f8) : W.cell? ⟨g, 2, none⟩ = some (.int .i64 f2) := by
 obtain ⟨hb, hg⟩ := h
 exact (blk_cell hb 2).trans rfl
theorem IsS76.froz_2 {w0 W : World} {g : Nat} {f0 : Int} {f1 : Int} {f2 : Int} {f3 : Int} {f4 : Bool} {f5 : Int} {f6 : Int} {f7 : Bool} {f8 : Int} (h : IsS76 w0 W g f0 f1 f2 f3 f4 f5 f6 f7 f8) : W.frozen? ⟨g, 2, none⟩ = false := by
 obtain ⟨hb, hg⟩ := h
 exact blk_frozen hb 2
theorem IsS76.cell_3 {w0 W : World} {g : Nat} {f0 : Int} {f1 : Int} {f2 : Int} {f3 : Int} {f4 : Bool} {f5 : Int} {f6 : Int} {f7 : Bool} {f8 : Int} (h : IsS76 w0 W g f0 f1 f2 f3 f4 f5 f6 f7 f8) : W.cell? ⟨g, 3, none⟩ = some (.int .i64 f3) := by
 obtain ⟨hb, hg⟩ := h
 exact (blk_cell hb 3).trans rfl
theorem IsS76.froz_3 {w0 W : World} {g : Nat} {f0 : Int} {f1 : Int} {f2 : Int} {f3 : Int} {f4 : Bool} {f5 : Int} {f6 : Int} {f7 : Bool} {f8 : Int} (h : IsS76 w0 W g f0 f1 f2 f3 f4 f5 f6 f7 f8) : W.frozen? ⟨g, 3, none⟩ = false := by
 obtain ⟨hb, hg⟩ := h
 exact blk_frozen hb 3
theorem IsS76.cell_4 {w0 W : World} {g : Nat} {f0 : Int} {f1 : Int} {f2 : Int} {f3 : Int} {f4 : Bool} {f5 : Int} {f6 : Int} {f7 : Bool} {f8 : Int} (h : IsS76 w0 W g f0 f1 f2 f3 f4 f5 f6 f7 f8) : W.cell? ⟨g, 4, none⟩ = some (.bool f4) := by
 obtain ⟨hb, hg⟩ := h
 exact (blk_cell hb 4).trans rfl
theorem IsS76.froz_4 {w0 W : World} {g : Nat} {f0 : Int} {f1 : Int} {f2 : Int} {f3 : Int} {f4 : Bool} {f5 : Int} {f6 : Int} {f7 : Bool} {f8 : Int} (h : IsS76 w0 W g f0 f1 f2 f3 f4 f5 f6 f7 f8) : W.frozen? ⟨g, 4, none⟩ = false := by
 obtain ⟨hb, hg⟩ := h
 exact blk_frozen hb 4
theorem IsS76.rebase {w0 W : World} {g : Nat} {f0 : Int} {f1 : Int} {f2 : Int} {f3 : Int} {f4 : Bool} {f5 : Int} {f6 : Int} {f7 : Bool} {f8 : Int} {w1 : World} (h : IsS76 w1 W g f0 f1 f2 f3 f4 f5 f6 f7 f8) (hl : w0.heap.size ≤ w1.heap.size) : IsS76 w0 W g f0 f1 f2 f3 f4 f5 f6 f7 f8 := by
 obtain ⟨hb, hg⟩ := h
 exact ⟨hb, Nat.le_trans hl hg⟩
theorem cellS76_0 {W : World} {g : Nat} {f0 : Int} {f1 : Int} {f2 : Int} {f3 : Int} {f4 : Bool} {f5 : Int} {f6 : Int} {f7 : Bool} {f8 : Int} (h : W.heap[g]? = some (.cells #[.int .i64 f0, .int .i64 f1, .int .i64 f2, .int .i64 f3, .bool f4, .int .i64 f5, .int .i64 f6, .bool f7, .int .i64 f8] 76 (0, 0))) : W.cell? ⟨g, 0, none⟩ = some (.int .i64 f0) := (blk_cell h 0).trans rfl
theorem IsS76.set_0 {w0 W : World} {g : Nat} {f0 : Int} {f1 : Int} {f2 : Int} {f3 : Int} {f4 : Bool} {f5 : Int} {f6 : Int} {f7 : Bool} {f8 : Int} (h : IsS76 w0 W g f0 f1 f2 f3 f4 f5 f6 f7 f8) (x : Int) : IsS76 w0 (W.setCell ⟨g, 0, none⟩ (.int .i64 x)) g x f1 f2 f3 f4 f5 f6 f7 f8 := by
 obtain ⟨hb, hg⟩ := h
 exact ⟨by simpa using blk_set hb 0 (.int .i64 x), hg⟩
theorem cellS76_1 {W : World} {g : Nat} {f0 : Int} {f1 : Int} {f2 : Int} {f3 : Int} {f4 : Bool} {f5 : Int} {f6 : Int} {f7 : Bool} {f8 : Int} (h : W.heap[g]? = some (.cells #[.int .i64 f0, .int .i64 f1, .int .i64 f2, .int .i64 f3, .bool f4, .int .i64 f5, .int .i64 f6, .bool f7, .int .i64 f8] 76 (0, 0))) : W.cell? ⟨g, 1, none⟩ = some (.int .i64 f1) := (blk_cell h 1).trans rfl
theorem IsS76.set_1 {w0 W : World} {g : Nat} {f0 : Int} {f1 : Int} {f2 : Int} {f3 : Int} {f4 : Bool} {f5 : Int} {f6 : Int} {f7 : Bool} {f8 : Int} (h : IsS76 w0 W g f0 f1 f2 f3 f4 f5 f6 f7 f8) (x : Int) : IsS76 w0 (W.setCell ⟨g, 1, none⟩ (.int .i64 x)) g f0 x f2 f3 f4 f5 f6 f7 f8 := by
 obtain ⟨hb, hg⟩ := h
 exact ⟨by simpa using blk_set hb 1 (.int .i64 x), hg⟩
theorem cellS76_2 {W : World} {g : Nat} {f0 : Int} {f1 : Int} {f2 : Int} {f3 : Int} {f4 : Bool} {f5 : Int} {f6 : Int} {f7 : Bool} {f8 : Int} (h : W.heap[g]? = some (.cells #[.int .i64 f0, .int .i64 f1, .int .i64 f2, .int .i64 f3, .bool f4, .int .i64 f5, .int .i64 f6, .bool f7, .int .i64 f8] 76 (0, 0))) : W.cell? ⟨g, 2, none⟩ = some (.int .i64 f2) := (blk_cell h 2).trans rfl
theorem IsS76.set_2 {w0 W : World} {g : Nat} {f0 : Int} {f1 : Int} {f2 : Int} {f3 : Int} {f4 : Bool} {f5 : Int} {f6 : Int} {f7 : Bool} {f8 : Int} (h : IsS76 w0 W g f0 f1 f2 f3 f4 f5 f6 f7 f8) (x : Int) : IsS76 w0 (W.setCell ⟨g, 2, none⟩ (.int .i64 x)) g f0 f1 x f3 f4 f5 f6 f7 f8 := by
 obtain ⟨hb, hg⟩ := h
 exact ⟨by simpa using blk_set hb 2 (.int .i64 x), hg⟩
theorem cellS76_3 {W : World} {g : Nat} {f0 : Int} {f1 : Int} {f2 : Int} {f3 : Int} {f4 : Bool} {f5 : Int} {f6 : Int} {f7 : Bool} {f8 : Int} (h : W.heap[g]? = some (.cells #[.int .i64 f0, .int .i64 f1, .int .i64 f2, .int .i64 f3, .bool f4, .int .i64 f5, .int .i64 f6, .bool f7, .int .i64 f8] 76 (0, 0))) : W.cell? ⟨g, 3, none⟩ = some (.int .i64 f3) := (blk_cell h 3).trans rfl
theorem IsS76.set_3 {w0 W : World} {g : Nat} {f0 : Int} {f1 : Int} {f2 : Int} {f3 : Int} {f4 : Bool} {f5 : Int} {f6 : Int} {f7 : Bool} {f8 : Int} (h : IsS76 w0 W g f0 f1 f2 f3 f4 f5 f6 f7 f8) (x : Int) : IsS76 w0 (W.setCell ⟨g, 3, none⟩ (.int .i64 x)) g f0 f1 f2 x f4 f5 f6 f7 f8 := by
 obtain ⟨hb, hg⟩ := h
 exact ⟨by simpa using blk_set hb 3 (.int .i64 x), hg⟩
theorem cellS76_4 {W : World} {g : Nat} {f0 : Int} {f1 : Int} {f2 : Int} {f3 : Int} {f4 : Bool} {f5 : Int} {f6 : Int} {f7 : Bool} {f8 : Int} (h : W.heap[g]? = some (.cells #[.int .i64 f0, .int .i64 f1, .int .i64 f2, .int .i64 f3, .bool f4, .int .i64 f5, .int .i64 f6, .bool f7, .int .i64 f8] 76 (0, 0))) : W.cell? ⟨g, 4, none⟩ = some (.bool f4) := (blk_cell h 4).trans rfl
theorem IsS76.set_4 {w0 W : World} {g : Nat} {f0 : Int} {f1 : Int} {f2 : Int} {f3 : Int} {f4 : Bool} {f5 : Int} {f6 : Int} {f7 : Bool} {f8 : Int} (h : IsS76 w0 W g f0 f1 f2 f3 f4 f5 f6 f7 f8) (x : Bool) : IsS76 w0 (W.setCell ⟨g, 4, none⟩ (.bool x)) g f0 f1 f2 f3 x f5 f6 f7 f8 := by
 obtain ⟨hb, hg⟩ := h
 exact ⟨by simpa using blk_set hb 4 (.bool x), hg⟩
theorem cellS76_5 {W : World} {g : Nat} {f0 : Int} {f1 : Int} {f2 : Int} {f3 : Int} {f4 : Bool} {f5 : Int} {f6 : Int} {f7 : Bool} {f8 : Int} (h : W.heap[g]? = some (.cells #[.int .i64 f0, .int .i64 f1, .int .i64 f2, .int .i64 f3, .bool f4, .int .i64 f5, .int .i64 f6, .bool f7, .int .i64 f8] 76 (0, 0))) : W.cell? ⟨g, 5, none⟩ = some (.int .i64 f5) := (blk_cell h 5).trans rfl
theorem IsS76.set_5 {w0 W : World} {g : Nat} {f0 : Int} {f1 : Int} {f2 : Int} {f3 : Int} {f4 : Bool} {f5 : Int} {f6 : Int} {f7 : Bool} {f8 : Int} (h : IsS76 w0 W g f0 f1 f2 f3 f4 f5 f6 f7 f8) (x : Int) : IsS76 w0 (W.setCell ⟨g, 5, none⟩ (.int .i64 x)) g f0 f1 f2 f3 f4 x f6 f7 f8 := by
 obtain ⟨hb, hg⟩ := h
 exact ⟨by simpa using blk_set hb 5 (.int .i64 x), hg⟩
theorem cellS76_6 {W : World} {g : Nat} {f0 : Int} {f1 : Int} {f2 : Int} {f3 : Int} {f4 : Bool} {f5 : Int} {f6 : Int} {f7 : Bool} {f8 : Int} (h : W.heap[g]? = some (.cells #[.int .i64 f0, .int .i64 f1, .int .i64 f2, .int .i64 f3, .bool f4, .int .i64 f5, .int .i64 f6, .bool f7, .int .i64 f8] 76 (0, 0))) : W.cell? ⟨g, 6, none⟩ = some (.int .i64 f6) := (blk_cell h 6).trans rfl
theorem IsS76.set_6 {w0 W : World} {g : Nat} {f0 : Int} {f1 : Int} {f2 : Int} {f3 : Int} {f4 : Bool} {f5 : Int} {f6 : Int} {f7 : Bool} {f8 : Int} (h : IsS76 w0 W g f0 f1 f2 f3 f4 f5 f6 f7 f8) (x : Int) : IsS76 w0 (W.setCell ⟨g, 6, none⟩ (.int .i64 x)) g f0 f1 f2 f3 f4 f5 x f7 f8 := by
 obtain ⟨hb, hg⟩ := h
 exact ⟨by simpa using blk_set hb 6 (.int .i64 x), hg⟩
theorem cellS76_7 {W : World} {g : Nat} {f0 : Int} {f1 : Int} {f2 : Int} {f3 : Int} {f4 : Bool} {f5 : Int} {f6 : Int} {f7 : Bool} {f8 : Int} (h : W.heap[g]? = some (.cells #[.int .i64 f0, .int .i64 f1, .int .i64 f2, .int .i64 f3, .bool f4, .int .i64 f5, .int .i64 f6, .bool f7, .int .i64 f8] 76 (0, 0))) : W.cell? ⟨g, 7, none⟩ = some (.bool f7) := (blk_cell h 7).trans rfl
theorem IsS76.set_7 {w0 W : World} {g : Nat} {f0 : Int} {f1 : Int} {f2 : Int} {f3 : Int} {f4 : Bool} {f5 : Int} {f6 : Int} {f7 : Bool} {f8 : Int} (h : IsS76 w0 W g f0 f1 f2 f3 f4 f5 f6 f7 f8) (x : Bool) : IsS76 w0 (W.setCell ⟨g, 7, none⟩ (.bool x)) g f0 f1 f2 f3 f4 f5 f6 x f8 := by
 obtain ⟨hb, hg⟩ := h
 exact ⟨by simpa using blk_set hb 7 (.bool x), hg⟩
theorem cellS76_8 {W : World} {g : Nat} {f0 : Int} {f1 : Int} {f2 : Int} {f3 : Int} {f4 : Bool} {f5 : Int} {f6 : Int} {f7 : Bool} {f8 : Int} (h : W.heap[g]? = some (.cells #[.int .i64 f0, .int .i64 f1, .int .i64 f2, .int .i64 f3, .bool f4, .int .i64 f5, .int .i64 f6, .bool f7, .int .i64 f8] 76 (0, 0))) : W.cell? ⟨g, 8, none⟩ = some (.int .i64 f8) := (blk_cell h 8).trans rfl
theorem IsS76.set_8 {w0 W : World} {g : Nat} {f0 : Int} {f1 : Int} {f2 : Int} {f3 : Int} {f4 : Bool} {f5 : Int} {f6 : Int} {f7 : Bool} {f8 : Int} (h : IsS76 w0 W g f0 f1 f2 f3 f4 f5 f6 f7 f8) (x : Int) : IsS76 w0 (W.setCell ⟨g, 8, none⟩ (.int .i64 x)) g f0 f1 f2 f3 f4 f5 f6 f7 x := by
 obtain ⟨hb, hg⟩ := h
 exact ⟨by simpa using blk_set hb 8 (.int .i64 x), hg⟩
def aimd_New.made.f (a0 : Int) (a1 : Int) (a2 : Int) : Option (Int × Int × Int × Int × Bool × Int × Int × Bool × Int × Int) := if a1 < 1 then (none) else (if a0 < a1 then (none) else (if a2 < a0 then (none) else (if a2 > 17179869184 then (none) else (some (a0, a1, a2, 0, false, 0, 0, false, 0, 0)))))
set_option maxHeartbeats 8000000 in
set_option maxRecDepth 100000 in
theorem aimd_New.made.calls (a0 : Int) (a1 : Int) (a2 : Int) (r1 : Int) (r2 : Int) (r3 : Int) (r4 : Int) (r5 : Bool) (r6 : Int) (r7 : Int) (r8 : Bool) (r9 : Int) (r10 : Int) (w0 w : World) (hB : Below w0.heap.size w0 w) (h : aimd_New.made.f a0 a1 a2 = some (r1, r2, r3, r4, r5, r6, r7, r8, r9, r10)) :
  Calls Tryd.prog 14 #[.int .i64 a0, .int .i64 a1, .int .i64 a2] w fun e w' => ∃ g_ : Nat, e = .returned (.tuple #[.pointer (some ⟨g_, 0, none⟩), .int .i64 r10]) ∧ IsS76 w0 w' g_ r1 r2 r3 r4 r5 r6 r7 r8 r9 ∧ Below w0.heap.size w0 w' ∧ Below w.heap.size w w' := by
 have hu76 := Tryd.underlying76
 have HBW := Aside0.mk (Below.refl w.heap.size w)
 have HW0 := Aside0.mk hB.size
 have HB := Aside0.mk hB
 clear hB
 have H : (if a1 < 1 then (none) else (if a0 < a1 then (none) else (if a2 < a0 then (none) else (if a2 > 17179869184 then (none) else (some (a0, a1, a2, 0, false, 0, 0, false, 0, 0)))))) = some (r1, r2, r3, r4, r5, r6, r7, r8, r9, r10) := h
 clear h
 by_cases c4 : a1 < 1
 ·rw [if_pos c4] at H
  exact absurd H (by simp)
 ·rw [if_neg c4] at H
  have c4b0 : decide (a1 < 1) = false := decide_eq_false c4
  clear c4
  by_cases c5 : a0 < a1
  ·rw [if_pos c5] at H
   exact absurd H (by simp)
  ·rw [if_neg c5] at H
   have c5b0 : decide (a0 < a1) = false := decide_eq_false c5
   clear c5
   by_cases c6 : a2 < a0
   ·rw [if_pos c6] at H
    exact absurd H (by simp)
   ·rw [if_neg c6] at H
    have c6b0 : decide (a2 < a0) = false := decide_eq_false c6
    clear c6
    by_cases c7 : a2 > 17179869184
    ·rw [if_pos c7] at H
     exact absurd H (by simp)
    ·rw [if_neg c7] at H
     have c7b0 : decide (17179869184 < a2) = false := decide_eq_false c7
     clear c7
     simp only [Option.some.injEq, Prod.mk.injEq] at H
     obtain ⟨rfl, rfl, rfl, rfl, rfl, rfl, rfl, rfl, rfl, rfl⟩ := H
     go_enter Tryd.func14, Tryd.ntmps14
     go_wp2_with (first | ((with_reducible refine gate_dst (N := 28) rfl ?_); refine box_event ?hg (N := 28) ?hd (cs := #[.int .i64 a0, .int .i64 a1, .int .i64 a2, .int .i64 0, .bool false, .int .i64 0, .int .i64 0, .bool false, .int .i64 0]) (t := 76) ?hr ?_; (case hd => rfl); (case hg => rfl); (case hr => first | (go_simp; done) | (go_simp; rfl)); intro gb101 hg w8 hbox hb; have n0_ := Aside0.mk (below_step (by repeat (first | (with_reducible first | exact HBW.out | apply below_alloc | apply pw_below_drewN | apply below_drew1) | exact HBW.out)) hb); have n1_ := Aside0.mk (below_step (by repeat (first | (with_reducible first | exact HB.out | apply below_alloc | apply pw_below_drewN | apply below_drew1) | exact HB.out)) hb); have n2_ := Aside0.mk (hbox); have n3_ := Aside0.mk ((by rw [hg]; exact (below_size (by repeat (first | (with_reducible first | exact HBW.out | apply below_alloc | apply pw_below_drewN | apply below_drew1) | exact HBW.out))) : w.heap.size ≤ gb101)); have n4_ := Aside0.mk ((Nat.le_trans HW0.out (by rw [hg]; exact (below_size (by repeat (first | (with_reducible first | exact HBW.out | apply below_alloc | apply pw_below_drewN | apply below_drew1) | exact HBW.out))) : w.heap.size ≤ gb101) : w0.heap.size ≤ gb101)); clear HBW; clear HB; have HBW := n0_; have HB := n1_; have BK101 := n2_; have GW101 := n3_; have GE101 := n4_; clear n0_ n1_ n2_ n3_ n4_; clear hb hbox hg))
     go_ret2
     exact ⟨_, rfl, (show IsS76 w0 _ gb101 a0 a1 a2 0 false 0 0 false 0 from ⟨by (with_reducible repeat (first | refine blk_drewN ?_ _ | refine blk_drew ?_ | refine blk_alloc ?_ _)); exact BK101.out, GE101.out⟩), by repeat (first | (with_reducible first | exact HB.out | apply below_alloc | apply pw_below_drewN | apply below_drew1 | refine below_set ?_ GE101.out) | exact HB.out), by repeat (first | (with_reducible first | exact HBW.out | apply below_alloc | apply pw_below_drewN | apply below_drew1 | refine below_set ?_ GW101.out) | exact HBW.out)⟩
def aimd_New.nil.f (a0 : Int) (a1 : Int) (a2 : Int) : Option (Int) := if a1 < 1 then (some 1) else (if a0 < a1 then (some 1) else (if a2 < a0 then (some 1) else (if a2 > 17179869184 then (some 1) else (none))))
set_option maxHeartbeats 8000000 in
set_option maxRecDepth 100000 in
theorem aimd_New.nil.calls (a0 : Int) (a1 : Int) (a2 : Int) (r : Int) (w : World) (h : aimd_New.nil.f a0 a1 a2 = some r) :
  Calls Tryd.prog 14 #[.int .i64 a0, .int .i64 a1, .int .i64 a2] w fun e w' => e = .returned (.tuple #[.pointer none, .int .i64 r]) ∧ Below w.heap.size w w' := by
 have hu76 := Tryd.underlying76
 have HB := Aside0.mk (Below.refl w.heap.size w)
 have H : (if a1 < 1 then (some 1) else (if a0 < a1 then (some 1) else (if a2 < a0 then (some 1) else (if a2 > 17179869184 then (some 1) else (none))))) = some r := h
 clear h
 by_cases c4 : a1 < 1
 ·rw [if_pos c4] at H
  have c4b0 : decide (a1 < 1) = true := decide_eq_true c4
  clear c4
  obtain rfl := Option.some.inj H
  go_enter Tryd.func14, Tryd.ntmps14
  go_wp2
  go_ret2
  exact ⟨by first | rfl | (simp [errW_none, errW_some] <;> rfl) | (simp [*, errW_none, errW_some] <;> rfl), by repeat (first | (with_reducible first | exact HB.out | apply below_alloc | apply pw_below_drewN | apply below_drew1) | exact HB.out)⟩
 ·rw [if_neg c4] at H
  have c4b0 : decide (a1 < 1) = false := decide_eq_false c4
  clear c4
  by_cases c5 : a0 < a1
  ·rw [if_pos c5] at H
   have c5b0 : decide (a0 < a1) = true := decide_eq_true c5
   clear c5
   obtain rfl := Option.some.inj H
   go_enter Tryd.func14, Tryd.ntmps14
   go_wp2
   go_ret2
   exact ⟨by first | rfl | (simp [errW_none, errW_some] <;> rfl) | (simp [*, errW_none, errW_some] <;> rfl), by repeat (first | (with_reducible first | exact HB.out | apply below_alloc | apply pw_below_drewN | apply below_drew1) | exact HB.out)⟩
  ·rw [if_neg c5] at H
   have c5b0 : decide (a0 < a1) = false := decide_eq_false c5
   clear c5
   by_cases c6 : a2 < a0
   ·rw [if_pos c6] at H
    have c6b0 : decide (a2 < a0) = true := decide_eq_true c6
    clear c6
    obtain rfl := Option.some.inj H
    go_enter Tryd.func14, Tryd.ntmps14
    go_wp2
    go_ret2
    exact ⟨by first | rfl | (simp [errW_none, errW_some] <;> rfl) | (simp [*, errW_none, errW_some] <;> rfl), by repeat (first | (with_reducible first | exact HB.out | apply below_alloc | apply pw_below_drewN | apply below_drew1) | exact HB.out)⟩
   ·rw [if_neg c6] at H
    have c6b0 : decide (a2 < a0) = false := decide_eq_false c6
    clear c6
    by_cases c7 : a2 > 17179869184
    ·rw [if_pos c7] at H
     have c7b0 : decide (17179869184 < a2) = true := decide_eq_true c7
     clear c7
     obtain rfl := Option.some.inj H
     go_enter Tryd.func14, Tryd.ntmps14
     go_wp2
     go_ret2
     exact ⟨by first | rfl | (simp [errW_none, errW_some] <;> rfl) | (simp [*, errW_none, errW_some] <;> rfl), by repeat (first | (with_reducible first | exact HB.out | apply below_alloc | apply pw_below_drewN | apply below_drew1) | exact HB.out)⟩
    ·rw [if_neg c7] at H
     have c7b0 : decide (17179869184 < a2) = false := decide_eq_false c7
     clear c7
     exact absurd H (by simp)
def IsS78 (w0 W : World) (g : Nat) (f0 : Int) (f1 : Int) (f2 : Int) (f3 : Bool) (f4 : Int) : Prop := W.heap[g]? = some (.cells #[.int .i64 f0, .int .i64 f1, .int .i64 f2, .bool f3, .int .i64 f4] 78 (0, 0)) ∧ w0.heap.size ≤ g
theorem IsS78.grown {w0 W : World} {g : Nat} {f0 : Int} {f1 : Int} {f2 : Int} {f3 : Bool} {f4 : Int} {W1 : World} {row : Option Nat} (h : IsS78 w0 W g f0 f1 f2 f3 f4) (hw : W.grownBy W1 row) (hne : some g ≠ row) : IsS78 w0 W1 g f0 f1 f2 f3 f4 := by
 obtain ⟨hb, hg⟩ := h
 exact ⟨blk_grown hb hw hne, hg⟩
theorem IsS78.blk {w0 W : World} {g : Nat} {f0 : Int} {f1 : Int} {f2 : Int} {f3 : Bool} {f4 : Int} (h : IsS78 w0 W g f0 f1 f2 f3 f4) : ∃ cs, W.heap[g]? = some (.cells cs 78 (0, 0)) := by
 obtain ⟨hb, hg⟩ := h
 exact ⟨_, hb⟩
theorem IsS78.below {w0 W : World} {g : Nat} {f0 : Int} {f1 : Int} {f2 : Int} {f3 : Bool} {f4 : Int} {W1 : World} (h : IsS78 w0 W g f0 f1 f2 f3 f4) (hw : Below W.heap.size W W1) : IsS78 w0 W1 g f0 f1 f2 f3 f4 := h.grown (grown_of_below hw none) (by simp)
theorem IsS78.alloc {w0 W : World} {g : Nat} {f0 : Int} {f1 : Int} {f2 : Int} {f3 : Bool} {f4 : Int} (h : IsS78 w0 W g f0 f1 f2 f3 f4) (o : Obj) : IsS78 w0 (W.alloc o) g f0 f1 f2 f3 f4 := h.below (below_alloc (Below.refl _ _) o)
theorem IsS78.drewN {w0 W : World} {g : Nat} {f0 : Int} {f1 : Int} {f2 : Int} {f3 : Bool} {f4 : Int} (h : IsS78 w0 W g f0 f1 f2 f3 f4) (m : Nat) : IsS78 w0 (W.drewN m) g f0 f1 f2 f3 f4 := h
theorem IsS78.drew {w0 W : World} {g : Nat} {f0 : Int} {f1 : Int} {f2 : Int} {f3 : Bool} {f4 : Int} (h : IsS78 w0 W g f0 f1 f2 f3 f4) : IsS78 w0 W.drew g f0 f1 f2 f3 f4 := h
theorem IsS78.ge {w0 W : World} {g : Nat} {f0 : Int} {f1 : Int} {f2 : Int} {f3 : Bool} {f4 : Int} (h : IsS78 w0 W g f0 f1 f2 f3 f4) : w0.heap.size ≤ g := by
 obtain ⟨hb, hg⟩ := h
 exact hg
theorem IsS78.cell_0 {w0 W : World} {g : Nat} {f0 : Int} {f1 : Int} {f2 : Int} {f3 : Bool} {f4 : Int} (h : IsS78 w0 W g f0 f1 f2 f3 f4) : W.cell? ⟨g, 0, none⟩ = some (.int .i64 f0) := by
 obtain ⟨hb, hg⟩ := h
 exact (blk_cell hb 0).trans rfl
theorem IsS78.froz_0 {w0 W : World} {g : Nat} {f0 : Int} {f1 : Int} {f2 : Int} {f3 : Bool} {f4 : Int} (h : IsS78 w0 W g f0 f1 f2 f3 f4) : W.frozen? ⟨g, 0, none⟩ = false := by
 obtain ⟨hb, hg⟩ := h
 exact blk_frozen hb 0
theorem IsS78.cell_1 {w0 W : World} {g : Nat} {f0 : Int} {f1 : Int} {f2 : Int} {f3 : Bool} {f4 : Int} (h : IsS78 w0 W g f0 f1 f2 f3 f4) : W.cell? ⟨g, 1, none⟩ = some (.int .i64 f1) := by
 obtain ⟨hb, hg⟩ := h
 exact (blk_cell hb 1).trans rfl
theorem IsS78.froz_1 {w0 W : World} {g : Nat} {f0 : Int} {f1 : Int} {f2 : Int} {f3 : Bool} {f4 : Int} (h : IsS78 w0 W g f0 f1 f2 f3 f4) : W.frozen? ⟨g, 1, none⟩ = false := by
 obtain ⟨hb, hg⟩ := h
 exact blk_frozen hb 1
theorem IsS78.cell_2 {w0 W : World} {g : Nat} {f0 : Int} {f1 : Int} {f2 : Int} {f3 : Bool} {f4 : Int} (h : IsS78 w0 W g f0 f1 f2 f3 f4) : W.cell? ⟨g, 2, none⟩ = some (.int .i64 f2) := by
 obtain ⟨hb, hg⟩ := h
 exact (blk_cell hb 2).trans rfl
theorem IsS78.froz_2 {w0 W : World} {g : Nat} {f0 : Int} {f1 : Int} {f2 : Int} {f3 : Bool} {f4 : Int} (h : IsS78 w0 W g f0 f1 f2 f3 f4) : W.frozen? ⟨g, 2, none⟩ = false := by
 obtain ⟨hb, hg⟩ := h
 exact blk_frozen hb 2
theorem IsS78.cell_3 {w0 W : World} {g : Nat} {f0 : Int} {f1 : Int} {f2 : Int} {f3 : Bool} {f4 : Int} (h : IsS78 w0 W g f0 f1 f2 f3 f4) : W.cell? ⟨g, 3, none⟩ = some (.bool f3) := by
 obtain ⟨hb, hg⟩ := h
 exact (blk_cell hb 3).trans rfl
theorem IsS78.froz_3 {w0 W : World} {g : Nat} {f0 : Int} {f1 : Int} {f2 : Int} {f3 : Bool} {f4 : Int} (h : IsS78 w0 W g f0 f1 f2 f3 f4) : W.frozen? ⟨g, 3, none⟩ = false := by
 obtain ⟨hb, hg⟩ := h
 exact blk_frozen hb 3
theorem IsS78.cell_4 {w0 W : World} {g : Nat} {f0 : Int} {f1 : Int} {f2 : Int} {f3 : Bool} {f4 : Int} (h : IsS78 w0 W g f0 f1 f2 f3 f4) : W.cell? ⟨g, 4, none⟩ = some (.int .i64 f4) := by
 obtain ⟨hb, hg⟩ := h
 exact (blk_cell hb 4).trans rfl
theorem IsS78.froz_4 {w0 W : World} {g : Nat} {f0 : Int} {f1 : Int} {f2 : Int} {f3 : Bool} {f4 : Int} (h : IsS78 w0 W g f0 f1 f2 f3 f4) : W.frozen? ⟨g, 4, none⟩ = false := by
 obtain ⟨hb, hg⟩ := h
 exact blk_frozen hb 4
theorem IsS78.rebase {w0 W : World} {g : Nat} {f0 : Int} {f1 : Int} {f2 : Int} {f3 : Bool} {f4 : Int} {w1 : World} (h : IsS78 w1 W g f0 f1 f2 f3 f4) (hl : w0.heap.size ≤ w1.heap.size) : IsS78 w0 W g f0 f1 f2 f3 f4 := by
 obtain ⟨hb, hg⟩ := h
 exact ⟨hb, Nat.le_trans hl hg⟩
theorem cellS78_0 {W : World} {g : Nat} {f0 : Int} {f1 : Int} {f2 : Int} {f3 : Bool} {f4 : Int} (h : W.heap[g]? = some (.cells #[.int .i64 f0, .int .i64 f1, .int .i64 f2, .bool f3, .int .i64 f4] 78 (0, 0))) : W.cell? ⟨g, 0, none⟩ = some (.int .i64 f0) := (blk_cell h 0).trans rfl
theorem IsS78.set_0 {w0 W : World} {g : Nat} {f0 : Int} {f1 : Int} {f2 : Int} {f3 : Bool} {f4 : Int} (h : IsS78 w0 W g f0 f1 f2 f3 f4) (x : Int) : IsS78 w0 (W.setCell ⟨g, 0, none⟩ (.int .i64 x)) g x f1 f2 f3 f4 := by
 obtain ⟨hb, hg⟩ := h
 exact ⟨by simpa using blk_set hb 0 (.int .i64 x), hg⟩
theorem cellS78_1 {W : World} {g : Nat} {f0 : Int} {f1 : Int} {f2 : Int} {f3 : Bool} {f4 : Int} (h : W.heap[g]? = some (.cells #[.int .i64 f0, .int .i64 f1, .int .i64 f2, .bool f3, .int .i64 f4] 78 (0, 0))) : W.cell? ⟨g, 1, none⟩ = some (.int .i64 f1) := (blk_cell h 1).trans rfl
theorem IsS78.set_1 {w0 W : World} {g : Nat} {f0 : Int} {f1 : Int} {f2 : Int} {f3 : Bool} {f4 : Int} (h : IsS78 w0 W g f0 f1 f2 f3 f4) (x : Int) : IsS78 w0 (W.setCell ⟨g, 1, none⟩ (.int .i64 x)) g f0 x f2 f3 f4 := by
 obtain ⟨hb, hg⟩ := h
 exact ⟨by simpa using blk_set hb 1 (.int .i64 x), hg⟩
theorem cellS78_2 {W : World} {g : Nat} {f0 : Int} {f1 : Int} {f2 : Int} {f3 : Bool} {f4 : Int} (h : W.heap[g]? = some (.cells #[.int .i64 f0, .int .i64 f1, .int .i64 f2, .bool f3, .int .i64 f4] 78 (0, 0))) : W.cell? ⟨g, 2, none⟩ = some (.int .i64 f2) := (blk_cell h 2).trans rfl
theorem IsS78.set_2 {w0 W : World} {g : Nat} {f0 : Int} {f1 : Int} {f2 : Int} {f3 : Bool} {f4 : Int} (h : IsS78 w0 W g f0 f1 f2 f3 f4) (x : Int) : IsS78 w0 (W.setCell ⟨g, 2, none⟩ (.int .i64 x)) g f0 f1 x f3 f4 := by
 obtain ⟨hb, hg⟩ := h
 exact ⟨by simpa using blk_set hb 2 (.int .i64 x), hg⟩
theorem cellS78_3 {W : World} {g : Nat} {f0 : Int} {f1 : Int} {f2 : Int} {f3 : Bool} {f4 : Int} (h : W.heap[g]? = some (.cells #[.int .i64 f0, .int .i64 f1, .int .i64 f2, .bool f3, .int .i64 f4] 78 (0, 0))) : W.cell? ⟨g, 3, none⟩ = some (.bool f3) := (blk_cell h 3).trans rfl
theorem IsS78.set_3 {w0 W : World} {g : Nat} {f0 : Int} {f1 : Int} {f2 : Int} {f3 : Bool} {f4 : Int} (h : IsS78 w0 W g f0 f1 f2 f3 f4) (x : Bool) : IsS78 w0 (W.setCell ⟨g, 3, none⟩ (.bool x)) g f0 f1 f2 x f4 := by
 obtain ⟨hb, hg⟩ := h
 exact ⟨by simpa using blk_set hb 3 (.bool x), hg⟩
theorem cellS78_4 {W : World} {g : Nat} {f0 : Int} {f1 : Int} {f2 : Int} {f3 : Bool} {f4 : Int} (h : W.heap[g]? = some (.cells #[.int .i64 f0, .int .i64 f1, .int .i64 f2, .bool f3, .int .i64 f4] 78 (0, 0))) : W.cell? ⟨g, 4, none⟩ = some (.int .i64 f4) := (blk_cell h 4).trans rfl
theorem IsS78.set_4 {w0 W : World} {g : Nat} {f0 : Int} {f1 : Int} {f2 : Int} {f3 : Bool} {f4 : Int} (h : IsS78 w0 W g f0 f1 f2 f3 f4) (x : Int) : IsS78 w0 (W.setCell ⟨g, 4, none⟩ (.int .i64 x)) g f0 f1 f2 f3 x := by
 obtain ⟨hb, hg⟩ := h
 exact ⟨by simpa using blk_set hb 4 (.int .i64 x), hg⟩
def lossy_New.made.f (a0 : Int) (a1 : Int) (a2 : Int) : Option (Int × Int × Int × Bool × Int × Int) := if a1 < 1 then (none) else (if a0 < a1 then (none) else (if a2 < a0 then (none) else (if a2 > 17179869184 then (none) else (some (a0, a1, a2, false, 0, 0)))))
set_option maxHeartbeats 8000000 in
set_option maxRecDepth 100000 in
theorem lossy_New.made.calls (a0 : Int) (a1 : Int) (a2 : Int) (r1 : Int) (r2 : Int) (r3 : Int) (r4 : Bool) (r5 : Int) (r6 : Int) (w0 w : World) (hB : Below w0.heap.size w0 w) (h : lossy_New.made.f a0 a1 a2 = some (r1, r2, r3, r4, r5, r6)) :
  Calls Tryd.prog 15 #[.int .i64 a0, .int .i64 a1, .int .i64 a2] w fun e w' => ∃ g_ : Nat, e = .returned (.tuple #[.pointer (some ⟨g_, 0, none⟩), .int .i64 r6]) ∧ IsS78 w0 w' g_ r1 r2 r3 r4 r5 ∧ Below w0.heap.size w0 w' ∧ Below w.heap.size w w' := by
 have hu78 := Tryd.underlying78
 have HBW := Aside0.mk (Below.refl w.heap.size w)
 have HW0 := Aside0.mk hB.size
 have HB := Aside0.mk hB
 clear hB
 have H : (if a1 < 1 then (none) else (if a0 < a1 then (none) else (if a2 < a0 then (none) else (if a2 > 17179869184 then (none) else (some (a0, a1, a2, false, 0, 0)))))) = some (r1, r2, r3, r4, r5, r6) := h
 clear h
 by_cases c4 : a1 < 1
 ·rw [if_pos c4] at H
  exact absurd H (by simp)
 ·rw [if_neg c4] at H
  have c4b0 : decide (a1 < 1) = false := decide_eq_false c4
  clear c4
  by_cases c5 : a0 < a1
  ·rw [if_pos c5] at H
   exact absurd H (by simp)
  ·rw [if_neg c5] at H
   have c5b0 : decide (a0 < a1) = false := decide_eq_false c5
   clear c5
   by_cases c6 : a2 < a0
   ·rw [if_pos c6] at H
    exact absurd H (by simp)
   ·rw [if_neg c6] at H
    have c6b0 : decide (a2 < a0) = false := decide_eq_false c6
    clear c6
    by_cases c7 : a2 > 17179869184
    ·rw [if_pos c7] at H
     exact absurd H (by simp)
    ·rw [if_neg c7] at H
     have c7b0 : decide (17179869184 < a2) = false := decide_eq_false c7
     clear c7
     simp only [Option.some.injEq, Prod.mk.injEq] at H
     obtain ⟨rfl, rfl, rfl, rfl, rfl, rfl⟩ := H
     go_enter Tryd.func15, Tryd.ntmps15
     go_wp2_with (first | ((with_reducible refine gate_dst (N := 28) rfl ?_); refine box_event ?hg (N := 28) ?hd (cs := #[.int .i64 a0, .int .i64 a1, .int .i64 a2, .bool false, .int .i64 0]) (t := 78) ?hr ?_; (case hd => rfl); (case hg => rfl); (case hr => first | (go_simp; done) | (go_simp; rfl)); intro gb103 hg w8 hbox hb; have n0_ := Aside0.mk (below_step (by repeat (first | (with_reducible first | exact HBW.out | apply below_alloc | apply pw_below_drewN | apply below_drew1) | exact HBW.out)) hb); have n1_ := Aside0.mk (below_step (by repeat (first | (with_reducible first | exact HB.out | apply below_alloc | apply pw_below_drewN | apply below_drew1) | exact HB.out)) hb); have n2_ := Aside0.mk (hbox); have n3_ := Aside0.mk ((by rw [hg]; exact (below_size (by repeat (first | (with_reducible first | exact HBW.out | apply below_alloc | apply pw_below_drewN | apply below_drew1) | exact HBW.out))) : w.heap.size ≤ gb103)); have n4_ := Aside0.mk ((Nat.le_trans HW0.out (by rw [hg]; exact (below_size (by repeat (first | (with_reducible first | exact HBW.out | apply below_alloc | apply pw_below_drewN | apply below_drew1) | exact HBW.out))) : w.heap.size ≤ gb103) : w0.heap.size ≤ gb103)); clear HBW; clear HB; have HBW := n0_; have HB := n1_; have BK103 := n2_; have GW103 := n3_; have GE103 := n4_; clear n0_ n1_ n2_ n3_ n4_; clear hb hbox hg))
     go_ret2
     exact ⟨_, rfl, (show IsS78 w0 _ gb103 a0 a1 a2 false 0 from ⟨by (with_reducible repeat (first | refine blk_drewN ?_ _ | refine blk_drew ?_ | refine blk_alloc ?_ _)); exact BK103.out, GE103.out⟩), by repeat (first | (with_reducible first | exact HB.out | apply below_alloc | apply pw_below_drewN | apply below_drew1 | refine below_set ?_ GE103.out) | exact HB.out), by repeat (first | (with_reducible first | exact HBW.out | apply below_alloc | apply pw_below_drewN | apply below_drew1 | refine below_set ?_ GW103.out) | exact HBW.out)⟩
set_option maxHeartbeats 8000000 in
set_option maxRecDepth 100000 in
theorem group_New.calls5 (w0 w : World) (hB : Below w0.heap.size w0 w) :
  Calls Tryd.prog 16 #[.int .i64 5000] w fun e w' => ∃ g_ : Nat, e = .returned (.tuple #[.pointer (some ⟨g_, 0, none⟩), .int .i64 0]) ∧ w'.heap[g_]? = some (.cells #[.int .i64 0, .int .i64 0, .int .i64 0, .int .i64 0, .bool false, .pointer none, .int .i64 5000] 85 (0, 0)) ∧ w.heap.size ≤ g_ ∧ Below w0.heap.size w0 w' ∧ Below w.heap.size w w' := by
 have hu85 := Tryd.underlying85
 go_enter Tryd.func16, Tryd.ntmps16
 go_wp2_with (first | ((with_reducible refine gate_dst (N := 12) rfl ?_); refine box_event ?hg (N := 12) ?hd (cs := #[.int .i64 0, .int .i64 0, .int .i64 0, .int .i64 0, .bool false, .pointer none, .int .i64 5000]) (t := 85) ?hr ?_; (case hd => rfl); (case hg => rfl); (case hr => first | (go_simp; done) | (go_simp; rfl)); intro gb hg w8 hbox hb; have hgb : w.heap.size ≤ gb := (by rw [hg]; exact (below_size (by repeat (first | exact Below.refl _ _ | apply below_alloc | apply pw_below_drewN | apply below_drew)))); have HB1 := below_step (by repeat (first | exact hB | apply below_alloc | apply pw_below_drewN | apply below_drew)) hb; have HB2 := below_step (by repeat (first | exact Below.refl _ _ | apply below_alloc | apply pw_below_drewN | apply below_drew)) hb; clear hg hb))
 go_ret2
 exact ⟨_, rfl, by (with_reducible repeat (first | refine blk_drewN ?_ _ | refine blk_drew ?_ | refine blk_alloc ?_ _)); exact hbox, hgb, by repeat (first | (with_reducible first | exact HB1 | apply below_alloc | apply pw_below_drewN | apply below_drew1) | exact HB1), by repeat (first | (with_reducible first | exact HB2 | apply below_alloc | apply pw_below_drewN | apply below_drew1) | exact HB2)⟩
def IsS88 (w0 W : World) (g : Nat) (f0 : Int) (f1 : Int) (f2 : Int) (f3 : Int) (f4 : Int) (f5 : List Int) (f6 : List Int) (f7 : Int) : Prop := ∃ A5 c5, ∃ A6 c6, W.heap[g]? = some (.cells #[.int .i64 f0, .int .i64 f1, .int .i64 f2, .int .i64 f3, .int .i64 f4, .slice A5 f5.length c5, .slice A6 f6.length c6, .int .i64 f7] 88 (0, 0)) ∧ w0.heap.size ≤ g ∧ Kd.C (Kd.int .i64) w0 A5 f5.length f5 ∧ Kd.C (Kd.int .i64) w0 A6 f6.length f6
theorem IsS88.grown {w0 W : World} {g : Nat} {f0 : Int} {f1 : Int} {f2 : Int} {f3 : Int} {f4 : Int} {f5 : List Int} {f6 : List Int} {f7 : Int} {W1 : World} {row : Option Nat} (h : IsS88 w0 W g f0 f1 f2 f3 f4 f5 f6 f7) (hw : W.grownBy W1 row) (hne : some g ≠ row) : IsS88 w0 W1 g f0 f1 f2 f3 f4 f5 f6 f7 := by
 obtain ⟨A5, c5, A6, c6, hb, hg, hr5, hr6⟩ := h
 exact ⟨A5, c5, A6, c6, blk_grown hb hw hne, hg, hr5, hr6⟩
theorem IsS88.blk {w0 W : World} {g : Nat} {f0 : Int} {f1 : Int} {f2 : Int} {f3 : Int} {f4 : Int} {f5 : List Int} {f6 : List Int} {f7 : Int} (h : IsS88 w0 W g f0 f1 f2 f3 f4 f5 f6 f7) : ∃ cs, W.heap[g]? = some (.cells cs 88 (0, 0)) := by
 obtain ⟨A5, c5, A6, c6, hb, hg, hr5, hr6⟩ := h
 exact ⟨_, hb⟩
theorem IsS88.below {w0 W : World} {g : Nat} {f0 : Int} {f1 : Int} {f2 : Int} {f3 : Int} {f4 : Int} {f5 : List Int} {f6 : List Int} {f7 : Int} {W1 : World} (h : IsS88 w0 W g f0 f1 f2 f3 f4 f5 f6 f7) (hw : Below W.heap.size W W1) : IsS88 w0 W1 g f0 f1 f2 f3 f4 f5 f6 f7 := h.grown (grown_of_below hw none) (by simp)
theorem IsS88.alloc {w0 W : World} {g : Nat} {f0 : Int} {f1 : Int} {f2 : Int} {f3 : Int} {f4 : Int} {f5 : List Int} {f6 : List Int} {f7 : Int} (h : IsS88 w0 W g f0 f1 f2 f3 f4 f5 f6 f7) (o : Obj) : IsS88 w0 (W.alloc o) g f0 f1 f2 f3 f4 f5 f6 f7 := h.below (below_alloc (Below.refl _ _) o)
theorem IsS88.drewN {w0 W : World} {g : Nat} {f0 : Int} {f1 : Int} {f2 : Int} {f3 : Int} {f4 : Int} {f5 : List Int} {f6 : List Int} {f7 : Int} (h : IsS88 w0 W g f0 f1 f2 f3 f4 f5 f6 f7) (m : Nat) : IsS88 w0 (W.drewN m) g f0 f1 f2 f3 f4 f5 f6 f7 := h
theorem IsS88.drew {w0 W : World} {g : Nat} {f0 : Int} {f1 : Int} {f2 : Int} {f3 : Int} {f4 : Int} {f5 : List Int} {f6 : List Int} {f7 : Int} (h : IsS88 w0 W g f0 f1 f2 f3 f4 f5 f6 f7) : IsS88 w0 W.drew g f0 f1 f2 f3 f4 f5 f6 f7 := h
theorem IsS88.ge {w0 W : World} {g : Nat} {f0 : Int} {f1 : Int} {f2 : Int} {f3 : Int} {f4 : Int} {f5 : List Int} {f6 : List Int} {f7 : Int} (h : IsS88 w0 W g f0 f1 f2 f3 f4 f5 f6 f7) : w0.heap.size ≤ g := by
 obtain ⟨A5, c5, A6, c6, hb, hg, hr5, hr6⟩ := h
 exact hg
theorem IsS88.cell_0 {w0 W : World} {g : Nat} {f0 : Int} {f1 : Int} {f2 : Int} {f3 : Int} {f4 : Int} {f5 : List Int} {f6 : List Int} {f7 : Int} (h : IsS88 w0 W g f0 f1 f2 f3 f4 f5 f6 f7) : W.cell? ⟨g, 0, none⟩ = some (.int .i64 f0) := by
 obtain ⟨A5, c5, A6, c6, hb, hg, hr5, hr6⟩ := h
 exact (blk_cell hb 0).trans rfl
theorem IsS88.froz_0 {w0 W : World} {g : Nat} {f0 : Int} {f1 : Int} {f2 : Int} {f3 : Int} {f4 : Int} {f5 : List Int} {f6 : List Int} {f7 : Int} (h : IsS88 w0 W g f0 f1 f2 f3 f4 f5 f6 f7) : W.frozen? ⟨g, 0, none⟩ = false := by
 obtain ⟨A5, c5, A6, c6, hb, hg, hr5, hr6⟩ := h
 exact blk_frozen hb 0
theorem IsS88.cell_1 {w0 W : World} {g : Nat} {f0 : Int} {f1 : Int} {f2 : Int} {f3 : Int} {f4 : Int} {f5 : List Int} {f6 : List Int} {f7 : Int} (h : IsS88 w0 W g f0 f1 f2 f3 f4 f5 f6 f7) : W.cell? ⟨g, 1, none⟩ = some (.int .i64 f1) := by
 obtain ⟨A5, c5, A6, c6, hb, hg, hr5, hr6⟩ := h
 exact (blk_cell hb 1).trans rfl
theorem IsS88.froz_1 {w0 W : World} {g : Nat} {f0 : Int} {f1 : Int} {f2 : Int} {f3 : Int} {f4 : Int} {f5 : List Int} {f6 : List Int} {f7 : Int} (h : IsS88 w0 W g f0 f1 f2 f3 f4 f5 f6 f7) : W.frozen? ⟨g, 1, none⟩ = false := by
 obtain ⟨A5, c5, A6, c6, hb, hg, hr5, hr6⟩ := h
 exact blk_frozen hb 1
theorem IsS88.cell_2 {w0 W : World} {g : Nat} {f0 : Int} {f1 : Int} {f2 : Int} {f3 : Int} {f4 : Int} {f5 : List Int} {f6 : List Int} {f7 : Int} (h : IsS88 w0 W g f0 f1 f2 f3 f4 f5 f6 f7) : W.cell? ⟨g, 2, none⟩ = some (.int .i64 f2) := by
 obtain ⟨A5, c5, A6, c6, hb, hg, hr5, hr6⟩ := h
 exact (blk_cell hb 2).trans rfl
theorem IsS88.froz_2 {w0 W : World} {g : Nat} {f0 : Int} {f1 : Int} {f2 : Int} {f3 : Int} {f4 : Int} {f5 : List Int} {f6 : List Int} {f7 : Int} (h : IsS88 w0 W g f0 f1 f2 f3 f4 f5 f6 f7) : W.frozen? ⟨g, 2, none⟩ = false := by
 obtain ⟨A5, c5, A6, c6, hb, hg, hr5, hr6⟩ := h
 exact blk_frozen hb 2
theorem IsS88.cell_3 {w0 W : World} {g : Nat} {f0 : Int} {f1 : Int} {f2 : Int} {f3 : Int} {f4 : Int} {f5 : List Int} {f6 : List Int} {f7 : Int} (h : IsS88 w0 W g f0 f1 f2 f3 f4 f5 f6 f7) : W.cell? ⟨g, 3, none⟩ = some (.int .i64 f3) := by
 obtain ⟨A5, c5, A6, c6, hb, hg, hr5, hr6⟩ := h
 exact (blk_cell hb 3).trans rfl
theorem IsS88.froz_3 {w0 W : World} {g : Nat} {f0 : Int} {f1 : Int} {f2 : Int} {f3 : Int} {f4 : Int} {f5 : List Int} {f6 : List Int} {f7 : Int} (h : IsS88 w0 W g f0 f1 f2 f3 f4 f5 f6 f7) : W.frozen? ⟨g, 3, none⟩ = false := by
 obtain ⟨A5, c5, A6, c6, hb, hg, hr5, hr6⟩ := h
 exact blk_frozen hb 3
theorem IsS88.cell_4 {w0 W : World} {g : Nat} {f0 : Int} {f1 : Int} {f2 : Int} {f3 : Int} {f4 : Int} {f5 : List Int} {f6 : List Int} {f7 : Int} (h : IsS88 w0 W g f0 f1 f2 f3 f4 f5 f6 f7) : W.cell? ⟨g, 4, none⟩ = some (.int .i64 f4) := by
 obtain ⟨A5, c5, A6, c6, hb, hg, hr5, hr6⟩ := h
 exact (blk_cell hb 4).trans rfl
theorem IsS88.froz_4 {w0 W : World} {g : Nat} {f0 : Int} {f1 : Int} {f2 : Int} {f3 : Int} {f4 : Int} {f5 : List Int} {f6 : List Int} {f7 : Int} (h : IsS88 w0 W g f0 f1 f2 f3 f4 f5 f6 f7) : W.frozen? ⟨g, 4, none⟩ = false := by
 obtain ⟨A5, c5, A6, c6, hb, hg, hr5, hr6⟩ := h
 exact blk_frozen hb 4
theorem IsS88.set_0 {w0 W : World} {g : Nat} {f0 : Int} {f1 : Int} {f2 : Int} {f3 : Int} {f4 : Int} {f5 : List Int} {f6 : List Int} {f7 : Int} (h : IsS88 w0 W g f0 f1 f2 f3 f4 f5 f6 f7) (x : Int) : IsS88 w0 (W.setCell ⟨g, 0, none⟩ (.int .i64 x)) g x f1 f2 f3 f4 f5 f6 f7 := by
 obtain ⟨A5, c5, A6, c6, hb, hg, hr5, hr6⟩ := h
 exact ⟨A5, c5, A6, c6, by simpa using blk_set hb 0 (.int .i64 x), hg, hr5, hr6⟩
theorem IsS88.set_1 {w0 W : World} {g : Nat} {f0 : Int} {f1 : Int} {f2 : Int} {f3 : Int} {f4 : Int} {f5 : List Int} {f6 : List Int} {f7 : Int} (h : IsS88 w0 W g f0 f1 f2 f3 f4 f5 f6 f7) (x : Int) : IsS88 w0 (W.setCell ⟨g, 1, none⟩ (.int .i64 x)) g f0 x f2 f3 f4 f5 f6 f7 := by
 obtain ⟨A5, c5, A6, c6, hb, hg, hr5, hr6⟩ := h
 exact ⟨A5, c5, A6, c6, by simpa using blk_set hb 1 (.int .i64 x), hg, hr5, hr6⟩
theorem IsS88.set_2 {w0 W : World} {g : Nat} {f0 : Int} {f1 : Int} {f2 : Int} {f3 : Int} {f4 : Int} {f5 : List Int} {f6 : List Int} {f7 : Int} (h : IsS88 w0 W g f0 f1 f2 f3 f4 f5 f6 f7) (x : Int) : IsS88 w0 (W.setCell ⟨g, 2, none⟩ (.int .i64 x)) g f0 f1 x f3 f4 f5 f6 f7 := by
 obtain ⟨A5, c5, A6, c6, hb, hg, hr5, hr6⟩ := h
 exact ⟨A5, c5, A6, c6, by simpa using blk_set hb 2 (.int .i64 x), hg, hr5, hr6⟩
theorem IsS88.set_3 {w0 W : World} {g : Nat} {f0 : Int} {f1 : Int} {f2 : Int} {f3 : Int} {f4 : Int} {f5 : List Int} {f6 : List Int} {f7 : Int} (h : IsS88 w0 W g f0 f1 f2 f3 f4 f5 f6 f7) (x : Int) : IsS88 w0 (W.setCell ⟨g, 3, none⟩ (.int .i64 x)) g f0 f1 f2 x f4 f5 f6 f7 := by
 obtain ⟨A5, c5, A6, c6, hb, hg, hr5, hr6⟩ := h
 exact ⟨A5, c5, A6, c6, by simpa using blk_set hb 3 (.int .i64 x), hg, hr5, hr6⟩
theorem IsS88.set_4 {w0 W : World} {g : Nat} {f0 : Int} {f1 : Int} {f2 : Int} {f3 : Int} {f4 : Int} {f5 : List Int} {f6 : List Int} {f7 : Int} (h : IsS88 w0 W g f0 f1 f2 f3 f4 f5 f6 f7) (x : Int) : IsS88 w0 (W.setCell ⟨g, 4, none⟩ (.int .i64 x)) g f0 f1 f2 f3 x f5 f6 f7 := by
 obtain ⟨A5, c5, A6, c6, hb, hg, hr5, hr6⟩ := h
 exact ⟨A5, c5, A6, c6, by simpa using blk_set hb 4 (.int .i64 x), hg, hr5, hr6⟩
theorem IsS88.set_7 {w0 W : World} {g : Nat} {f0 : Int} {f1 : Int} {f2 : Int} {f3 : Int} {f4 : Int} {f5 : List Int} {f6 : List Int} {f7 : Int} (h : IsS88 w0 W g f0 f1 f2 f3 f4 f5 f6 f7) (x : Int) : IsS88 w0 (W.setCell ⟨g, 7, none⟩ (.int .i64 x)) g f0 f1 f2 f3 f4 f5 f6 x := by
 obtain ⟨A5, c5, A6, c6, hb, hg, hr5, hr6⟩ := h
 exact ⟨A5, c5, A6, c6, by simpa using blk_set hb 7 (.int .i64 x), hg, hr5, hr6⟩
def trend_New.made.f (a0 : Int) (a1 : Int) : Option (Int × Int × Int × Int × Int × List Int × List Int × Int × Int) := if a0 < 2 then (none) else (if a0 > 64 then (none) else (if a1 < 0 then (none) else (if a1 > 4294967296 then (none) else (some (a0, a1, 0, 0, 0, ([] : List Int), ([] : List Int), 0, 0)))))
set_option maxHeartbeats 8000000 in
set_option maxRecDepth 100000 in
theorem trend_New.made.calls (a0 : Int) (a1 : Int) (r1 : Int) (r2 : Int) (r3 : Int) (r4 : Int) (r5 : Int) (r6 : List Int) (r7 : List Int) (r8 : Int) (r9 : Int) (w0 w : World) (hB : Below w0.heap.size w0 w) (h : trend_New.made.f a0 a1 = some (r1, r2, r3, r4, r5, r6, r7, r8, r9)) :
  Calls Tryd.prog 17 #[.int .i64 a0, .int .i64 a1] w fun e w' => ∃ g_ : Nat, e = .returned (.tuple #[.pointer (some ⟨g_, 0, none⟩), .int .i64 r9]) ∧ IsS88 w0 w' g_ r1 r2 r3 r4 r5 r6 r7 r8 ∧ Below w0.heap.size w0 w' ∧ Below w.heap.size w w' := by
 have hu88 := Tryd.underlying88
 have HBW := Aside0.mk (Below.refl w.heap.size w)
 have HW0 := Aside0.mk hB.size
 have HB := Aside0.mk hB
 clear hB
 have H : (if a0 < 2 then (none) else (if a0 > 64 then (none) else (if a1 < 0 then (none) else (if a1 > 4294967296 then (none) else (some (a0, a1, 0, 0, 0, ([] : List Int), ([] : List Int), 0, 0)))))) = some (r1, r2, r3, r4, r5, r6, r7, r8, r9) := h
 clear h
 by_cases c3 : a0 < 2
 ·rw [if_pos c3] at H
  exact absurd H (by simp)
 ·rw [if_neg c3] at H
  have c3b0 : decide (a0 < 2) = false := decide_eq_false c3
  clear c3
  by_cases c4 : a0 > 64
  ·rw [if_pos c4] at H
   exact absurd H (by simp)
  ·rw [if_neg c4] at H
   have c4b0 : decide (64 < a0) = false := decide_eq_false c4
   clear c4
   by_cases c5 : a1 < 0
   ·rw [if_pos c5] at H
    exact absurd H (by simp)
   ·rw [if_neg c5] at H
    have c5b0 : decide (a1 < 0) = false := decide_eq_false c5
    clear c5
    by_cases c6 : a1 > 4294967296
    ·rw [if_pos c6] at H
     exact absurd H (by simp)
    ·rw [if_neg c6] at H
     have c6b0 : decide (4294967296 < a1) = false := decide_eq_false c6
     clear c6
     simp only [Option.some.injEq, Prod.mk.injEq] at H
     obtain ⟨rfl, rfl, rfl, rfl, rfl, rfl, rfl, rfl, rfl⟩ := H
     go_enter Tryd.func17, Tryd.ntmps17
     go_wp2_with (first | ((with_reducible refine gate_dst (N := 23) rfl ?_); refine box_event ?hg (N := 23) ?hd (cs := #[.int .i64 a0, .int .i64 a1, .int .i64 0, .int .i64 0, .int .i64 0, .slice none 0 0, .slice none 0 0, .int .i64 0]) (t := 88) ?hr ?_; (case hd => rfl); (case hg => rfl); (case hr => first | (go_simp; done) | (go_simp; rfl)); intro gb105 hg w7 hbox hb; have n0_ := Aside0.mk (below_step (by repeat (first | (with_reducible first | exact HBW.out | apply below_alloc | apply pw_below_drewN | apply below_drew1) | exact HBW.out)) hb); have n1_ := Aside0.mk (below_step (by repeat (first | (with_reducible first | exact HB.out | apply below_alloc | apply pw_below_drewN | apply below_drew1) | exact HB.out)) hb); have n2_ := Aside0.mk (hbox); have n3_ := Aside0.mk ((by rw [hg]; exact (below_size (by repeat (first | (with_reducible first | exact HBW.out | apply below_alloc | apply pw_below_drewN | apply below_drew1) | exact HBW.out))) : w.heap.size ≤ gb105)); have n4_ := Aside0.mk ((Nat.le_trans HW0.out (by rw [hg]; exact (below_size (by repeat (first | (with_reducible first | exact HBW.out | apply below_alloc | apply pw_below_drewN | apply below_drew1) | exact HBW.out))) : w.heap.size ≤ gb105) : w0.heap.size ≤ gb105)); clear HBW; clear HB; have HBW := n0_; have HB := n1_; have BK105 := n2_; have GW105 := n3_; have GE105 := n4_; clear n0_ n1_ n2_ n3_ n4_; clear hb hbox hg))
     go_ret2
     exact ⟨_, rfl, (show IsS88 w0 _ gb105 a0 a1 0 0 0 ([] : List Int) ([] : List Int) 0 from ⟨none, 0, none, 0, by (with_reducible repeat (first | refine blk_drewN ?_ _ | refine blk_drew ?_ | refine blk_alloc ?_ _)); exact BK105.out, GE105.out, (Kd.C_nil _ _), (Kd.C_nil _ _)⟩), by repeat (first | (with_reducible first | exact HB.out | apply below_alloc | apply pw_below_drewN | apply below_drew1 | refine below_set ?_ GE105.out) | exact HB.out), by repeat (first | (with_reducible first | exact HBW.out | apply below_alloc | apply pw_below_drewN | apply below_drew1 | refine below_set ?_ GW105.out) | exact HBW.out)⟩
def sat_held.f (a0_0 : Int) (a0_1 : Int) : Option (Int) := if (IntKind.u64.wrap ((wrap64 (a0_1)) / 9223372036854775808)) = a0_0 then (some (wrap64 (a0_1))) else (if (wrap64 (a0_0)) < 0 then (some (-9223372036854775808)) else (some 9223372036854775807))
set_option maxHeartbeats 8000000 in
set_option maxRecDepth 100000 in
theorem sat_held.calls (a0_0 : Int) (a0_1 : Int) (r : Int) (w : World) (h : sat_held.f a0_0 a0_1 = some r) :
  Calls Tryd.prog 38 #[.agg #[.int .u64 a0_0, .int .u64 a0_1]] w fun e w' => e = .returned (.int .i64 r) ∧ Below w.heap.size w w' := by
 have hu97 := Tryd.underlying97
 have HB := Aside0.mk (Below.refl w.heap.size w)
 have H : (if (IntKind.u64.wrap ((wrap64 (a0_1)) / 9223372036854775808)) = a0_0 then (some (wrap64 (a0_1))) else (if (wrap64 (a0_0)) < 0 then (some (-9223372036854775808)) else (some 9223372036854775807))) = some r := h
 clear h
 by_cases c2 : (IntKind.u64.wrap ((wrap64 (a0_1)) / 9223372036854775808)) = a0_0
 ·rw [if_pos c2] at H
  have c2b0 : ((IntKind.u64.wrap ((wrap64 (a0_1)) / 9223372036854775808)) == a0_0) = true := beq_iff_eq.mpr c2
  have c2b1 : ((IntKind.u64.wrap ((wrap64 (a0_1)) / 9223372036854775808)) != a0_0) = false := bne_eq_false_iff_eq.mpr c2
  clear c2
  obtain rfl := Option.some.inj H
  go_enter Tryd.func38, Tryd.ntmps38
  go_wp2_with (first | ((with_reducible refine gate_dst (N := 1) rfl ?_); refine box_event ?hg (N := 1) ?hd (cs := #[.int .u64 a0_0, .int .u64 a0_1]) (t := 97) ?hr ?_; (case hd => rfl); (case hg => rfl); (case hr => first | (go_simp; done) | (go_simp; rfl)); intro gb107 hg w3 hbox hb; have n0_ := Aside0.mk (below_step (by repeat (first | (with_reducible first | exact HB.out | apply below_alloc | apply pw_below_drewN | apply below_drew1) | exact HB.out)) hb); have n1_ := Aside0.mk (hbox); have n2_ := Aside0.mk ((by rw [hg]; exact (below_size (by repeat (first | (with_reducible first | exact HB.out | apply below_alloc | apply pw_below_drewN | apply below_drew1) | exact HB.out))) : w.heap.size ≤ gb107)); have n3_ := Aside0.mk ((by rw [hg]; exact (below_size (by repeat (first | (with_reducible first | exact HB.out | apply below_alloc | apply pw_below_drewN | apply below_drew1) | exact HB.out))) : w.heap.size ≤ gb107)); clear HB; have HB := n0_; have BK107 := n1_; have GW107 := n2_; have GE107 := n3_; clear n0_ n1_ n2_ n3_; clear hb hbox hg; have hcz4_0 : w3.cell? ⟨gb107, 0, none⟩ = some (.int .u64 a0_0) := (blk_cell BK107.out 0).trans rfl; have hcz4_1 : w3.cell? ⟨gb107, 1, none⟩ = some (.int .u64 a0_1) := (blk_cell BK107.out 1).trans rfl; have hfz4_0 := blk_frozen BK107.out 0; have hfz4_1 := blk_frozen BK107.out 1))
  go_ret
  exact ⟨by first | rfl | (simp [errW_none, errW_some] <;> rfl) | (simp [*, errW_none, errW_some] <;> rfl), by repeat (first | (with_reducible first | exact HB.out | apply below_alloc | apply pw_below_drewN | apply below_drew1 | refine below_set ?_ GE107.out) | exact HB.out)⟩
 ·rw [if_neg c2] at H
  have c2b0 : ((IntKind.u64.wrap ((wrap64 (a0_1)) / 9223372036854775808)) == a0_0) = false := beq_eq_false_iff_ne.mpr c2
  have c2b1 : ((IntKind.u64.wrap ((wrap64 (a0_1)) / 9223372036854775808)) != a0_0) = true := bne_iff_ne.mpr c2
  by_cases c5 : (wrap64 (a0_0)) < 0
  ·rw [if_pos c5] at H
   have c5b0 : decide ((wrap64 (a0_0)) < 0) = true := decide_eq_true c5
   clear c5
   obtain rfl := Option.some.inj H
   go_enter Tryd.func38, Tryd.ntmps38
   go_wp2_with (first | ((with_reducible refine gate_dst (N := 1) rfl ?_); refine box_event ?hg (N := 1) ?hd (cs := #[.int .u64 a0_0, .int .u64 a0_1]) (t := 97) ?hr ?_; (case hd => rfl); (case hg => rfl); (case hr => first | (go_simp; done) | (go_simp; rfl)); intro gb107 hg w6 hbox hb; have n0_ := Aside0.mk (below_step (by repeat (first | (with_reducible first | exact HB.out | apply below_alloc | apply pw_below_drewN | apply below_drew1) | exact HB.out)) hb); have n1_ := Aside0.mk (hbox); have n2_ := Aside0.mk ((by rw [hg]; exact (below_size (by repeat (first | (with_reducible first | exact HB.out | apply below_alloc | apply pw_below_drewN | apply below_drew1) | exact HB.out))) : w.heap.size ≤ gb107)); have n3_ := Aside0.mk ((by rw [hg]; exact (below_size (by repeat (first | (with_reducible first | exact HB.out | apply below_alloc | apply pw_below_drewN | apply below_drew1) | exact HB.out))) : w.heap.size ≤ gb107)); clear HB; have HB := n0_; have BK107 := n1_; have GW107 := n2_; have GE107 := n3_; clear n0_ n1_ n2_ n3_; clear hb hbox hg; have hcz7_0 : w6.cell? ⟨gb107, 0, none⟩ = some (.int .u64 a0_0) := (blk_cell BK107.out 0).trans rfl; have hcz7_1 : w6.cell? ⟨gb107, 1, none⟩ = some (.int .u64 a0_1) := (blk_cell BK107.out 1).trans rfl; have hfz7_0 := blk_frozen BK107.out 0; have hfz7_1 := blk_frozen BK107.out 1))
   go_ret
   exact ⟨by first | rfl | (simp [errW_none, errW_some] <;> rfl) | (simp [*, errW_none, errW_some] <;> rfl), by repeat (first | (with_reducible first | exact HB.out | apply below_alloc | apply pw_below_drewN | apply below_drew1 | refine below_set ?_ GE107.out) | exact HB.out)⟩
  ·rw [if_neg c5] at H
   have c5b0 : decide ((wrap64 (a0_0)) < 0) = false := decide_eq_false c5
   clear c5
   obtain rfl := Option.some.inj H
   go_enter Tryd.func38, Tryd.ntmps38
   go_wp2_with (first | ((with_reducible refine gate_dst (N := 1) rfl ?_); refine box_event ?hg (N := 1) ?hd (cs := #[.int .u64 a0_0, .int .u64 a0_1]) (t := 97) ?hr ?_; (case hd => rfl); (case hg => rfl); (case hr => first | (go_simp; done) | (go_simp; rfl)); intro gb107 hg w8 hbox hb; have n0_ := Aside0.mk (below_step (by repeat (first | (with_reducible first | exact HB.out | apply below_alloc | apply pw_below_drewN | apply below_drew1) | exact HB.out)) hb); have n1_ := Aside0.mk (hbox); have n2_ := Aside0.mk ((by rw [hg]; exact (below_size (by repeat (first | (with_reducible first | exact HB.out | apply below_alloc | apply pw_below_drewN | apply below_drew1) | exact HB.out))) : w.heap.size ≤ gb107)); have n3_ := Aside0.mk ((by rw [hg]; exact (below_size (by repeat (first | (with_reducible first | exact HB.out | apply below_alloc | apply pw_below_drewN | apply below_drew1) | exact HB.out))) : w.heap.size ≤ gb107)); clear HB; have HB := n0_; have BK107 := n1_; have GW107 := n2_; have GE107 := n3_; clear n0_ n1_ n2_ n3_; clear hb hbox hg; have hcz9_0 : w8.cell? ⟨gb107, 0, none⟩ = some (.int .u64 a0_0) := (blk_cell BK107.out 0).trans rfl; have hcz9_1 : w8.cell? ⟨gb107, 1, none⟩ = some (.int .u64 a0_1) := (blk_cell BK107.out 1).trans rfl; have hfz9_0 := blk_frozen BK107.out 0; have hfz9_1 := blk_frozen BK107.out 1))
   go_ret
   exact ⟨by first | rfl | (simp [errW_none, errW_some] <;> rfl) | (simp [*, errW_none, errW_some] <;> rfl), by repeat (first | (with_reducible first | exact HB.out | apply below_alloc | apply pw_below_drewN | apply below_drew1 | refine below_set ?_ GE107.out) | exact HB.out)⟩
def bits_Mul64.f (a0 : Int) (a1 : Int) : Option (Int × Int) := some (IntKind.u64.wrap ((IntKind.u64.wrap ((IntKind.u64.wrap ((a0 / 4294967296) * (a1 / 4294967296))) + ((IntKind.u64.wrap ((IntKind.u64.wrap ((a0 / 4294967296) * (Go.bits .and .u64 a1 4294967295))) + ((IntKind.u64.wrap ((Go.bits .and .u64 a0 4294967295) * (Go.bits .and .u64 a1 4294967295))) / 4294967296))) / 4294967296))) + ((IntKind.u64.wrap ((Go.bits .and .u64 (IntKind.u64.wrap ((IntKind.u64.wrap ((a0 / 4294967296) * (Go.bits .and .u64 a1 4294967295))) + ((IntKind.u64.wrap ((Go.bits .and .u64 a0 4294967295) * (Go.bits .and .u64 a1 4294967295))) / 4294967296))) 4294967295) + (IntKind.u64.wrap ((Go.bits .and .u64 a0 4294967295) * (a1 / 4294967296))))) / 4294967296)), IntKind.u64.wrap (a0 * a1))
set_option maxHeartbeats 8000000 in
set_option maxRecDepth 100000 in
theorem bits_Mul64.calls (a0 : Int) (a1 : Int) (r1 : Int) (r2 : Int) (w : World) (h : bits_Mul64.f a0 a1 = some (r1, r2)) :
  Calls Tryd.prog 47 #[.int .u64 a0, .int .u64 a1] w fun e w' => e = .returned (.tuple #[.int .u64 r1, .int .u64 r2]) ∧ Drawn0 w w' := by
 have H : (some (IntKind.u64.wrap ((IntKind.u64.wrap ((IntKind.u64.wrap ((a0 / 4294967296) * (a1 / 4294967296))) + ((IntKind.u64.wrap ((IntKind.u64.wrap ((a0 / 4294967296) * (Go.bits .and .u64 a1 4294967295))) + ((IntKind.u64.wrap ((Go.bits .and .u64 a0 4294967295) * (Go.bits .and .u64 a1 4294967295))) / 4294967296))) / 4294967296))) + ((IntKind.u64.wrap ((Go.bits .and .u64 (IntKind.u64.wrap ((IntKind.u64.wrap ((a0 / 4294967296) * (Go.bits .and .u64 a1 4294967295))) + ((IntKind.u64.wrap ((Go.bits .and .u64 a0 4294967295) * (Go.bits .and .u64 a1 4294967295))) / 4294967296))) 4294967295) + (IntKind.u64.wrap ((Go.bits .and .u64 a0 4294967295) * (a1 / 4294967296))))) / 4294967296)), IntKind.u64.wrap (a0 * a1))) = some (r1, r2) := h
 clear h
 simp only [Option.some.injEq, Prod.mk.injEq] at H
 obtain ⟨rfl, rfl⟩ := H
 go_enter Tryd.func47, Tryd.ntmps47
 go_wp2
 go_ret2
 exact ⟨by first | rfl | (simp; done) | (simp [*]; done), by repeat (first | exact Drawn0.refl _ | apply Drawn0.step)⟩
def sat_Mul.f (a0 : Int) (a1 : Int) : Option (Int) := (bits_Mul64.f (IntKind.u64.wrap (a0)) (IntKind.u64.wrap (a1))).bind fun bt108 => ((sat_held.f (IntKind.u64.wrap (bt108.1 - (IntKind.u64.wrap ((Go.bits .and .u64 (IntKind.u64.wrap (a0 / 9223372036854775808)) (IntKind.u64.wrap (a1))) + (Go.bits .and .u64 (IntKind.u64.wrap (a1 / 9223372036854775808)) (IntKind.u64.wrap (a0))))))) bt108.2).bind fun t110 => (some t110))
set_option maxHeartbeats 8000000 in
set_option maxRecDepth 100000 in
theorem sat_Mul.calls (a0 : Int) (a1 : Int) (r : Int) (w : World) (h : sat_Mul.f a0 a1 = some r) :
  Calls Tryd.prog 35 #[.int .i64 a0, .int .i64 a1] w fun e w' => e = .returned (.int .i64 r) ∧ Below w.heap.size w w' := by
 have hu97 := Tryd.underlying97
 have HB := Aside0.mk (Below.refl w.heap.size w)
 have H : ((bits_Mul64.f (IntKind.u64.wrap (a0)) (IntKind.u64.wrap (a1))).bind fun bt108 => ((sat_held.f (IntKind.u64.wrap (bt108.1 - (IntKind.u64.wrap ((Go.bits .and .u64 (IntKind.u64.wrap (a0 / 9223372036854775808)) (IntKind.u64.wrap (a1))) + (Go.bits .and .u64 (IntKind.u64.wrap (a1 / 9223372036854775808)) (IntKind.u64.wrap (a0))))))) bt108.2).bind fun t110 => (some t110))) = some r := h
 clear h
 replace H := Option.bind_eq_some_iff.mp H
 obtain ⟨⟨t108, t109⟩, A30, H⟩ := H
 replace H : ((sat_held.f (IntKind.u64.wrap (t108 - (IntKind.u64.wrap ((Go.bits .and .u64 (IntKind.u64.wrap (a0 / 9223372036854775808)) (IntKind.u64.wrap (a1))) + (Go.bits .and .u64 (IntKind.u64.wrap (a1 / 9223372036854775808)) (IntKind.u64.wrap (a0))))))) t109).bind fun t110 => (some t110)) = some r := H
 have A3 := Aside0.mk A30
 clear A30
 replace H := Option.bind_eq_some_iff.mp H
 obtain ⟨t110, A40, H⟩ := H
 replace H : (some t110) = some r := H
 have A4 := Aside0.mk A40
 clear A40
 obtain rfl := Option.some.inj H
 go_enter Tryd.func35, Tryd.ntmps35
 go_wp2_with (first | ((with_reducible refine gate_callee (f := 47) rfl ?_); refine goesL_ (some 12) rfl rfl Tryd.func47 (by kernel_rfl) rfl #[.int .u64 (IntKind.u64.wrap (a0)), .int .u64 (IntKind.u64.wrap (a1))] rfl (by (try simp only [List.map_toArray, List.map_cons, List.map_nil]); first | done | rfl | (simp only [List.length_drop, List.length_take]; rfl)) ?_; (with_reducible refine (bits_Mul64.calls (IntKind.u64.wrap (a0)) (IntKind.u64.wrap (a1)) t108 t109 _ A3.out).mono ?_); rintro e w' ⟨rfl, ⟨nd, rfl⟩⟩; refine ⟨_, rfl, ?_⟩) | ((with_reducible refine gate_callee (f := 38) rfl ?_); refine goesL_ (some 33) rfl rfl Tryd.func38 (by kernel_rfl) rfl #[.agg #[.int .u64 (IntKind.u64.wrap (t108 - (IntKind.u64.wrap ((Go.bits .and .u64 (IntKind.u64.wrap (a0 / 9223372036854775808)) (IntKind.u64.wrap (a1))) + (Go.bits .and .u64 (IntKind.u64.wrap (a1 / 9223372036854775808)) (IntKind.u64.wrap (a0))))))), .int .u64 t109]] rfl (by (try simp only [List.map_toArray, List.map_cons, List.map_nil]); first | done | rfl | (simp only [List.length_drop, List.length_take]; rfl)) ?_; (with_reducible refine (sat_held.calls (IntKind.u64.wrap (t108 - (IntKind.u64.wrap ((Go.bits .and .u64 (IntKind.u64.wrap (a0 / 9223372036854775808)) (IntKind.u64.wrap (a1))) + (Go.bits .and .u64 (IntKind.u64.wrap (a1 / 9223372036854775808)) (IntKind.u64.wrap (a0))))))) t109 t110 _ A4.out).mono ?_); rintro e w5 ⟨rfl, hb⟩; refine ⟨_, rfl, ?_⟩; have n0_ := Aside0.mk (below_step (by repeat (first | (with_reducible first | exact HB.out | apply below_alloc | apply pw_below_drewN | apply below_drew1) | exact HB.out)) hb); clear HB; have HB := n0_; clear n0_; (try clear hb); (try clear hb2); (try clear hk); (try clear hi)))
 go_ret
 exact ⟨by first | rfl | (simp [errW_none, errW_some] <;> rfl) | (simp [*, errW_none, errW_some] <;> rfl), by repeat (first | (with_reducible first | exact HB.out | apply below_alloc | apply pw_below_drewN | apply below_drew1) | exact HB.out)⟩
def fixed_Of.f (a0 : Int) : Option (Int) := (sat_Mul.f a0 4294967296).bind fun t111 => (some t111)
set_option maxHeartbeats 8000000 in
set_option maxRecDepth 100000 in
theorem fixed_Of.calls (a0 : Int) (r : Int) (w : World) (h : fixed_Of.f a0 = some r) :
  Calls Tryd.prog 30 #[.int .i64 a0] w fun e w' => e = .returned (.int .i64 r) ∧ Below w.heap.size w w' := by
 have HB := Aside0.mk (Below.refl w.heap.size w)
 have H : ((sat_Mul.f a0 4294967296).bind fun t111 => (some t111)) = some r := h
 clear h
 replace H := Option.bind_eq_some_iff.mp H
 obtain ⟨t111, A20, H⟩ := H
 replace H : (some t111) = some r := H
 have A2 := Aside0.mk A20
 clear A20
 obtain rfl := Option.some.inj H
 go_enter Tryd.func30, Tryd.ntmps30
 go_wp2_with (first | ((with_reducible refine gate_callee (f := 35) rfl ?_); refine goesL_ (some 4) rfl rfl Tryd.func35 (by kernel_rfl) rfl #[.int .i64 a0, .int .i64 4294967296] rfl (by (try simp only [List.map_toArray, List.map_cons, List.map_nil]); first | done | rfl | (simp only [List.length_drop, List.length_take]; rfl)) ?_; (with_reducible refine (sat_Mul.calls a0 4294967296 t111 _ A2.out).mono ?_); rintro e w3 ⟨rfl, hb⟩; refine ⟨_, rfl, ?_⟩; have n0_ := Aside0.mk (below_step (by repeat (first | (with_reducible first | exact HB.out | apply below_alloc | apply pw_below_drewN | apply below_drew1) | exact HB.out)) hb); clear HB; have HB := n0_; clear n0_; (try clear hb); (try clear hb2); (try clear hk); (try clear hi)))
 go_ret
 exact ⟨by first | rfl | (simp [errW_none, errW_some] <;> rfl) | (simp [*, errW_none, errW_some] <;> rfl), by repeat (first | (with_reducible first | exact HB.out | apply below_alloc | apply pw_below_drewN | apply below_drew1) | exact HB.out)⟩
end Go.Proofs.YtphgeljglhjamaaDoor.P
end

section
namespace Go.Proofs.YtphgeljglhjamaaDoor.P
open Go.RowKit Go.Proofs.YtphgeljglhjamaaDoorW.PrintWords Go.Proofs.YtphgeljglhjamaaDoorW.PrintLast Go.Proofs.YtphgeljglhjamaaDoorW.PrintMore
attribute [local go_sem] max2_int min2_int max_two min_two max_three min_three max_four min_four   -- for this text's walks alone
set_option linter.unusedVariables false
set_option linter.unusedSimpArgs false
def IsS91 (w0 W : World) (g : Nat) (f0 : Int) (f1 : Int) (f2 : Int) (f3 : Int) (f4 : Int) (f5 : Int) : Prop := W.heap[g]? = some (.cells #[.int .i64 f0, .int .i64 f1, .int .i64 f2, .int .i64 f3, .int .i64 f4, .int .i64 f5] 91 (0, 0)) ∧ w0.heap.size ≤ g
theorem IsS91.grown {w0 W : World} {g : Nat} {f0 : Int} {f1 : Int} {f2 : Int} {f3 : Int} {f4 : Int} {f5 : Int} {W1 : World} {row : Option Nat} (h : IsS91 w0 W g f0 f1 f2 f3 f4 f5) (hw : W.grownBy W1 row) (hne : some g ≠ row) : IsS91 w0 W1 g f0 f1 f2 f3 f4 f5 := by
 obtain ⟨hb, hg⟩ := h
 exact ⟨blk_grown hb hw hne, hg⟩
theorem IsS91.blk {w0 W : World} {g : Nat} {f0 : Int} {f1 : Int} {f2 : Int} {f3 : Int} {f4 : Int} {f5 : Int} (h : IsS91 w0 W g f0 f1 f2 f3 f4 f5) : ∃ cs, W.heap[g]? = some (.cells cs 91 (0, 0)) := by
 obtain ⟨hb, hg⟩ := h
 exact ⟨_, hb⟩
theorem IsS91.below {w0 W : World} {g : Nat} {f0 : Int} {f1 : Int} {f2 : Int} {f3 : Int} {f4 : Int} {f5 : Int} {W1 : World} (h : IsS91 w0 W g f0 f1 f2 f3 f4 f5) (hw : Below W.heap.size W W1) : IsS91 w0 W1 g f0 f1 f2 f3 f4 f5 := h.grown (grown_of_below hw none) (by simp)
theorem IsS91.alloc {w0 W : World} {g : Nat} {f0 : Int} {f1 : Int} {f2 : Int} {f3 : Int} {f4 : Int} {f5 : Int} (h : IsS91 w0 W g f0 f1 f2 f3 f4 f5) (o : Obj) : IsS91 w0 (W.alloc o) g f0 f1 f2 f3 f4 f5 := h.below (below_alloc (Below.refl _ _) o)
theorem IsS91.drewN {w0 W : World} {g : Nat} {f0 : Int} {f1 : Int} {f2 : Int} {f3 : Int} {f4 : Int} {f5 : Int} (h : IsS91 w0 W g f0 f1 f2 f3 f4 f5) (m : Nat) : IsS91 w0 (W.drewN m) g f0 f1 f2 f3 f4 f5 := h
theorem IsS91.drew {w0 W : World} {g : Nat} {f0 : Int} {f1 : Int} {f2 : Int} {f3 : Int} {f4 : Int} {f5 : Int} (h : IsS91 w0 W g f0 f1 f2 f3 f4 f5) : IsS91 w0 W.drew g f0 f1 f2 f3 f4 f5 := h
theorem IsS91.ge {w0 W : World} {g : Nat} {f0 : Int} {f1 : Int} {f2 : Int} {f3 : Int} {f4 : Int} {f5 : Int} (h : IsS91 w0 W g f0 f1 f2 f3 f4 f5) : w0.heap.size ≤ g := by
 obtain ⟨hb, hg⟩ := h
 exact hg
theorem IsS91.cell_0 {w0 W : World} {g : Nat} {f0 : Int} {f1 : Int} {f2 : Int} {f3 : Int} {f4 : Int} {f5 : Int} (h : IsS91 w0 W g f0 f1 f2 f3 f4 f5) : W.cell? ⟨g, 0, none⟩ = some (.int .i64 f0) := by
 obtain ⟨hb, hg⟩ := h
 exact (blk_cell hb 0).trans rfl
theorem IsS91.froz_0 {w0 W : World} {g : Nat} {f0 : Int} {f1 : Int} {f2 : Int} {f3 : Int} {f4 : Int} {f5 : Int} (h : IsS91 w0 W g f0 f1 f2 f3 f4 f5) : W.frozen? ⟨g, 0, none⟩ = false := by
 obtain ⟨hb, hg⟩ := h
 exact blk_frozen hb 0
theorem IsS91.cell_1 {w0 W : World} {g : Nat} {f0 : Int} {f1 : Int} {f2 : Int} {f3 : Int} {f4 : Int} {f5 : Int} (h : IsS91 w0 W g f0 f1 f2 f3 f4 f5) : W.cell? ⟨g, 1, none⟩ = some (.int .i64 f1) := by
 obtain ⟨hb, hg⟩ := h
 exact (blk_cell hb 1).trans rfl
theorem IsS91.froz_1 {w0 W : World} {g : Nat} {f0 : Int} {f1 : Int} {f2 : Int} {f3 : Int} {f4 : Int} {f5 : Int} (h : IsS91 w0 W g f0 f1 f2 f3 f4 f5) : W.frozen? ⟨g, 1, none⟩ = false := by
 obtain ⟨hb, hg⟩ := h
 exact blk_frozen hb 1
theorem IsS91.cell_2 {w0 W : World} {g : Nat} {f0 : Int} {f1 : Int} {f2 : Int} {f3 : Int} {f4 : Int} {f5 : Int} (h : IsS91 w0 W g f0 f1 f2 f3 f4 f5) : W.cell? ⟨g, 2, none⟩ = some (.int .i64 f2) := by
 obtain ⟨hb, hg⟩ := h
 exact (blk_cell hb 2).trans rfl
theorem IsS91.froz_2 {w0 W : World} {g : Nat} {f0 : Int} {f1 : Int} {f2 : Int} {f3 : Int} {f4 : Int} {f5 : Int} (h : IsS91 w0 W g f0 f1 f2 f3 f4 f5) : W.frozen? ⟨g, 2, none⟩ = false := by
 obtain ⟨hb, hg⟩ := h
 exact blk_frozen hb 2
theorem IsS91.cell_3 {w0 W : World} {g : Nat} {f0 : Int} {f1 : Int} {f2 : Int} {f3 : Int} {f4 : Int} {f5 : Int} (h : IsS91 w0 W g f0 f1 f2 f3 f4 f5) : W.cell? ⟨g, 3, none⟩ = some (.int .i64 f3) := by
 obtain ⟨hb, hg⟩ := h
 exact (blk_cell hb 3).trans rfl
theorem IsS91.froz_3 {w0 W : World} {g : Nat} {f0 : Int} {f1 : Int} {f2 : Int} {f3 : Int} {f4 : Int} {f5 : Int} (h : IsS91 w0 W g f0 f1 f2 f3 f4 f5) : W.frozen? ⟨g, 3, none⟩ = false := by
 obtain ⟨hb, hg⟩ := h
 exact blk_frozen hb 3
theorem IsS91.cell_4 {w0 W : World} {g : Nat} {f0 : Int} {f1 : Int} {f2 : Int} {f3 : Int} {f4 : Int} {f5 : Int} (h : IsS91 w0 W g f0 f1 f2 f3 f4 f5) : W.cell? ⟨g, 4, none⟩ = some (.int .i64 f4) := by
 obtain ⟨hb, hg⟩ := h
 exact (blk_cell hb 4).trans rfl
theorem IsS91.froz_4 {w0 W : World} {g : Nat} {f0 : Int} {f1 : Int} {f2 : Int} {f3 : Int} {f4 : Int} {f5 : Int} (h : IsS91 w0 W g f0 f1 f2 f3 f4 f5) : W.frozen? ⟨g, 4, none⟩ = false := by
 obtain ⟨hb, hg⟩ := h
 exact blk_frozen hb 4
theorem IsS91.rebase {w0 W : World} {g : Nat} {f0 : Int} {f1 : Int} {f2 : Int} {f3 : Int} {f4 : Int} {f5 : Int} {w1 : World} (h : IsS91 w1 W g f0 f1 f2 f3 f4 f5) (hl : w0.heap.size ≤ w1.heap.size) : IsS91 w0 W g f0 f1 f2 f3 f4 f5 := by
 obtain ⟨hb, hg⟩ := h
 exact ⟨hb, Nat.le_trans hl hg⟩
theorem cellS91_0 {W : World} {g : Nat} {f0 : Int} {f1 : Int} {f2 : Int} {f3 : Int} {f4 : Int} {f5 : Int} (h : W.heap[g]? = some (.cells #[.int .i64 f0, .int .i64 f1, .int .i64 f2, .int .i64 f3, .int .i64 f4, .int .i64 f5] 91 (0, 0))) : W.cell? ⟨g, 0, none⟩ = some (.int .i64 f0) := (blk_cell h 0).trans rfl
theorem IsS91.set_0 {w0 W : World} {g : Nat} {f0 : Int} {f1 : Int} {f2 : Int} {f3 : Int} {f4 : Int} {f5 : Int} (h : IsS91 w0 W g f0 f1 f2 f3 f4 f5) (x : Int) : IsS91 w0 (W.setCell ⟨g, 0, none⟩ (.int .i64 x)) g x f1 f2 f3 f4 f5 := by
 obtain ⟨hb, hg⟩ := h
 exact ⟨by simpa using blk_set hb 0 (.int .i64 x), hg⟩
theorem cellS91_1 {W : World} {g : Nat} {f0 : Int} {f1 : Int} {f2 : Int} {f3 : Int} {f4 : Int} {f5 : Int} (h : W.heap[g]? = some (.cells #[.int .i64 f0, .int .i64 f1, .int .i64 f2, .int .i64 f3, .int .i64 f4, .int .i64 f5] 91 (0, 0))) : W.cell? ⟨g, 1, none⟩ = some (.int .i64 f1) := (blk_cell h 1).trans rfl
theorem IsS91.set_1 {w0 W : World} {g : Nat} {f0 : Int} {f1 : Int} {f2 : Int} {f3 : Int} {f4 : Int} {f5 : Int} (h : IsS91 w0 W g f0 f1 f2 f3 f4 f5) (x : Int) : IsS91 w0 (W.setCell ⟨g, 1, none⟩ (.int .i64 x)) g f0 x f2 f3 f4 f5 := by
 obtain ⟨hb, hg⟩ := h
 exact ⟨by simpa using blk_set hb 1 (.int .i64 x), hg⟩
theorem cellS91_2 {W : World} {g : Nat} {f0 : Int} {f1 : Int} {f2 : Int} {f3 : Int} {f4 : Int} {f5 : Int} (h : W.heap[g]? = some (.cells #[.int .i64 f0, .int .i64 f1, .int .i64 f2, .int .i64 f3, .int .i64 f4, .int .i64 f5] 91 (0, 0))) : W.cell? ⟨g, 2, none⟩ = some (.int .i64 f2) := (blk_cell h 2).trans rfl
theorem IsS91.set_2 {w0 W : World} {g : Nat} {f0 : Int} {f1 : Int} {f2 : Int} {f3 : Int} {f4 : Int} {f5 : Int} (h : IsS91 w0 W g f0 f1 f2 f3 f4 f5) (x : Int) : IsS91 w0 (W.setCell ⟨g, 2, none⟩ (.int .i64 x)) g f0 f1 x f3 f4 f5 := by
 obtain ⟨hb, hg⟩ := h
 exact ⟨by simpa using blk_set hb 2 (.int .i64 x), hg⟩
theorem cellS91_3 {W : World} {g : Nat} {f0 : Int} {f1 : Int} {f2 : Int} {f3 : Int} {f4 : Int} {f5 : Int} (h : W.heap[g]? = some (.cells #[.int .i64 f0, .int .i64 f1, .int .i64 f2, .int .i64 f3, .int .i64 f4, .int .i64 f5] 91 (0, 0))) : W.cell? ⟨g, 3, none⟩ = some (.int .i64 f3) := (blk_cell h 3).trans rfl
theorem IsS91.set_3 {w0 W : World} {g : Nat} {f0 : Int} {f1 : Int} {f2 : Int} {f3 : Int} {f4 : Int} {f5 : Int} (h : IsS91 w0 W g f0 f1 f2 f3 f4 f5) (x : Int) : IsS91 w0 (W.setCell ⟨g, 3, none⟩ (.int .i64 x)) g f0 f1 f2 x f4 f5 := by
 obtain ⟨hb, hg⟩ := h
 exact ⟨by simpa using blk_set hb 3 (.int .i64 x), hg⟩
theorem cellS91_4 {W : World} {g : Nat} {f0 : Int} {f1 : Int} {f2 : Int} {f3 : Int} {f4 : Int} {f5 : Int} (h : W.heap[g]? = some (.cells #[.int .i64 f0, .int .i64 f1, .int .i64 f2, .int .i64 f3, .int .i64 f4, .int .i64 f5] 91 (0, 0))) : W.cell? ⟨g, 4, none⟩ = some (.int .i64 f4) := (blk_cell h 4).trans rfl
theorem IsS91.set_4 {w0 W : World} {g : Nat} {f0 : Int} {f1 : Int} {f2 : Int} {f3 : Int} {f4 : Int} {f5 : Int} (h : IsS91 w0 W g f0 f1 f2 f3 f4 f5) (x : Int) : IsS91 w0 (W.setCell ⟨g, 4, none⟩ (.int .i64 x)) g f0 f1 f2 f3 x f5 := by
 obtain ⟨hb, hg⟩ := h
 exact ⟨by simpa using blk_set hb 4 (.int .i64 x), hg⟩
theorem cellS91_5 {W : World} {g : Nat} {f0 : Int} {f1 : Int} {f2 : Int} {f3 : Int} {f4 : Int} {f5 : Int} (h : W.heap[g]? = some (.cells #[.int .i64 f0, .int .i64 f1, .int .i64 f2, .int .i64 f3, .int .i64 f4, .int .i64 f5] 91 (0, 0))) : W.cell? ⟨g, 5, none⟩ = some (.int .i64 f5) := (blk_cell h 5).trans rfl
theorem IsS91.set_5 {w0 W : World} {g : Nat} {f0 : Int} {f1 : Int} {f2 : Int} {f3 : Int} {f4 : Int} {f5 : Int} (h : IsS91 w0 W g f0 f1 f2 f3 f4 f5) (x : Int) : IsS91 w0 (W.setCell ⟨g, 5, none⟩ (.int .i64 x)) g f0 f1 f2 f3 f4 x := by
 obtain ⟨hb, hg⟩ := h
 exact ⟨by simpa using blk_set hb 5 (.int .i64 x), hg⟩
def detect_New.f  : Option (Int × Int × Int × Int × Int × Int) := (fixed_Of.f 25).bind fun t112 => (some (0, wrap64 (Int.tdiv t112 2), 0, 0, 0, 0))
set_option maxHeartbeats 8000000 in
set_option maxRecDepth 100000 in
theorem detect_New.calls  (r1 : Int) (r2 : Int) (r3 : Int) (r4 : Int) (r5 : Int) (r6 : Int) (w0 w : World) (hB : Below w0.heap.size w0 w) (h : detect_New.f  = some (r1, r2, r3, r4, r5, r6)) :
  Calls Tryd.prog 18 #[] w fun e w' => ∃ g_ : Nat, e = .returned (.pointer (some ⟨g_, 0, none⟩)) ∧ IsS91 w0 w' g_ r1 r2 r3 r4 r5 r6 ∧ Below w0.heap.size w0 w' ∧ Below w.heap.size w w' := by
 have hu91 := Tryd.underlying91
 have HBW := Aside0.mk (Below.refl w.heap.size w)
 have HW0 := Aside0.mk hB.size
 have HB := Aside0.mk hB
 clear hB
 have H : ((fixed_Of.f 25).bind fun t112 => (some (0, wrap64 (Int.tdiv t112 2), 0, 0, 0, 0))) = some (r1, r2, r3, r4, r5, r6) := h
 clear h
 replace H := Option.bind_eq_some_iff.mp H
 obtain ⟨t112, A10, H⟩ := H
 replace H : (some (0, wrap64 (Int.tdiv t112 2), 0, 0, 0, 0)) = some (r1, r2, r3, r4, r5, r6) := H
 have A1 := Aside0.mk A10
 clear A10
 simp only [Option.some.injEq, Prod.mk.injEq] at H
 obtain ⟨rfl, rfl, rfl, rfl, rfl, rfl⟩ := H
 go_enter Tryd.func18, Tryd.ntmps18
 go_wp2_with (first | ((with_reducible refine gate_callee (f := 30) rfl ?_); refine goesL_ (some 1) rfl rfl Tryd.func30 (by kernel_rfl) rfl #[.int .i64 25] rfl (by (try simp only [List.map_toArray, List.map_cons, List.map_nil]); first | done | rfl | (simp only [List.length_drop, List.length_take]; rfl)) ?_; (with_reducible refine (fixed_Of.calls 25 t112 _ A1.out).mono ?_); rintro e w2 ⟨rfl, hb⟩; refine ⟨_, rfl, ?_⟩; have n0_ := Aside0.mk (below_step (by repeat (first | (with_reducible first | exact HB.out | apply below_alloc | apply pw_below_drewN | apply below_drew1) | exact HB.out)) hb); have n1_ := Aside0.mk (below_step (by repeat (first | (with_reducible first | exact HBW.out | apply below_alloc | apply pw_below_drewN | apply below_drew1) | exact HBW.out)) hb); clear HB; clear HBW; have HB := n0_; have HBW := n1_; clear n0_ n1_; (try clear hb); (try clear hb2); (try clear hk); (try clear hi)) | ((with_reducible refine gate_dst (N := 4) rfl ?_); refine box_event ?hg (N := 4) ?hd (cs := #[.int .i64 0, .int .i64 (wrap64 (Int.tdiv t112 2)), .int .i64 0, .int .i64 0, .int .i64 0, .int .i64 0]) (t := 91) ?hr ?_; (case hd => rfl); (case hg => rfl); (case hr => first | (go_simp; done) | (go_simp; rfl)); intro gb113 hg w3 hbox hb; have n0_ := Aside0.mk (below_step (by repeat (first | (with_reducible first | exact HBW.out | apply below_alloc | apply pw_below_drewN | apply below_drew1) | exact HBW.out)) hb); have n1_ := Aside0.mk (below_step (by repeat (first | (with_reducible first | exact HB.out | apply below_alloc | apply pw_below_drewN | apply below_drew1) | exact HB.out)) hb); have n2_ := Aside0.mk (hbox); have n3_ := Aside0.mk ((by rw [hg]; exact (below_size (by repeat (first | (with_reducible first | exact HBW.out | apply below_alloc | apply pw_below_drewN | apply below_drew1) | exact HBW.out))) : w.heap.size ≤ gb113)); have n4_ := Aside0.mk ((Nat.le_trans HW0.out (by rw [hg]; exact (below_size (by repeat (first | (with_reducible first | exact HBW.out | apply below_alloc | apply pw_below_drewN | apply below_drew1) | exact HBW.out))) : w.heap.size ≤ gb113) : w0.heap.size ≤ gb113)); clear HBW; clear HB; have HBW := n0_; have HB := n1_; have BK113 := n2_; have GW113 := n3_; have GE113 := n4_; clear n0_ n1_ n2_ n3_ n4_; clear hb hbox hg))
 go_ret
 exact ⟨_, rfl, (show IsS91 w0 _ gb113 0 (wrap64 (Int.tdiv t112 2)) 0 0 0 0 from ⟨by (with_reducible repeat (first | refine blk_drewN ?_ _ | refine blk_drew ?_ | refine blk_alloc ?_ _)); exact BK113.out, GE113.out⟩), by repeat (first | (with_reducible first | exact HB.out | apply below_alloc | apply pw_below_drewN | apply below_drew1 | refine below_set ?_ GE113.out) | exact HB.out), by repeat (first | (with_reducible first | exact HBW.out | apply below_alloc | apply pw_below_drewN | apply below_drew1 | refine below_set ?_ GW113.out) | exact HBW.out)⟩
structure GccS where
 a0 : Int
 a1 : Int
 a2 : Int
 a3 : Int
 a4 : Bool
 a5 : Int
 a6 : Int
 a7 : Bool
 a8 : Int
 l0 : Int
 l1 : Int
 l2 : Int
 l3 : Bool
 l4 : Int
 d0 : Int
 d1 : Int
 d2 : Int
 d3 : Int
 d4 : Int
 d5 : Int
 rtt : Int
structure G65 (w0 W : World) (g gr tr de ai lo : Nat) (s : GccS) : Prop where
 blk : W.heap[g]? = some (.cells #[.pointer (some ⟨gr, 0, none⟩), .pointer (some ⟨tr, 0, none⟩), .pointer (some ⟨de, 0, none⟩), .pointer (some ⟨ai, 0, none⟩), .pointer (some ⟨lo, 0, none⟩), .int .i64 s.rtt] 65 (0, 0))
 ge : w0.heap.size ≤ g
 de : IsS91 w0 W de s.d0 s.d1 s.d2 s.d3 s.d4 s.d5
 ai : IsS76 w0 W ai s.a0 s.a1 s.a2 s.a3 s.a4 s.a5 s.a6 s.a7 s.a8
 lo : IsS78 w0 W lo s.l0 s.l1 s.l2 s.l3 s.l4
def IsS65 (w0 W : World) (g : Nat) (s : GccS) : Prop := ∃ gr tr de ai lo, G65 w0 W g gr tr de ai lo s
theorem G65.below {w0 W W1 : World} {g gr tr de ai lo : Nat} {s : GccS} (h : G65 w0 W g gr tr de ai lo s) (hb : Below W.heap.size W W1) : G65 w0 W1 g gr tr de ai lo s := ⟨blk_below h.blk hb, h.ge, IsS91.below h.de hb, IsS76.below h.ai hb, IsS78.below h.lo hb⟩
theorem IsS65.below {w0 W W1 : World} {g : Nat} {s : GccS} (h : IsS65 w0 W g s) (hb : Below W.heap.size W W1) : IsS65 w0 W1 g s := by
 obtain ⟨gr, tr, de, ai, lo, h⟩ := h
 exact ⟨gr, tr, de, ai, lo, h.below hb⟩
theorem IsS65.alloc {w0 W : World} {g : Nat} {s : GccS} (h : IsS65 w0 W g s) (o : Obj) : IsS65 w0 (W.alloc o) g s := h.below (below_alloc (Below.refl _ _) o)
theorem IsS65.drewN {w0 W : World} {g : Nat} {s : GccS} (h : IsS65 w0 W g s) (m : Nat) : IsS65 w0 (W.drewN m) g s := h.below (pw_below_drewN (Below.refl _ _) m)
theorem IsS65.drew {w0 W : World} {g : Nat} {s : GccS} (h : IsS65 w0 W g s) : IsS65 w0 W.drew g s := h.below (below_drew (Below.refl _ _))
theorem IsS65.blk {w0 W : World} {g : Nat} {s : GccS} (h : IsS65 w0 W g s) : ∃ cs, W.heap[g]? = some (.cells cs 65 (0, 0)) := by
 obtain ⟨gr, tr, de, ai, lo, h⟩ := h
 exact ⟨_, h.blk⟩
theorem IsS65.ge {w0 W : World} {g : Nat} {s : GccS} (h : IsS65 w0 W g s) : w0.heap.size ≤ g := by
 obtain ⟨gr, tr, de, ai, lo, h⟩ := h
 exact h.ge
theorem IsS65.rebase {w0 w1 W : World} {g : Nat} {s : GccS} (h : IsS65 w1 W g s) (hl : w0.heap.size ≤ w1.heap.size) : IsS65 w0 W g s := by
 obtain ⟨gr, tr, de, ai, lo, h⟩ := h
 exact ⟨gr, tr, de, ai, lo, h.blk, Nat.le_trans hl h.ge, IsS91.rebase h.de hl, IsS76.rebase h.ai hl, IsS78.rebase h.lo hl⟩
theorem bkt {W : World} {a b : Nat} {cs cs' : Array Value} {t t' : TypeId} (ha : W.heap[a]? = some (.cells cs t (0, 0))) (hb : W.heap[b]? = some (.cells cs' t' (0, 0))) (ht : t ≠ t') : a ≠ b := by
 rintro rfl
 rw [ha] at hb
 injection hb with hb
 injection hb with _ hb _
 exact ht hb
theorem kb_at {W W1 : World} {a b : Nat} {o : Obj} (hk : KeepBut W W1 b none) (ha : W.heap[a]? = some o) (hne : a ≠ b) : W1.heap[a]? = some o := (hk.2 a (blk_lt ha) hne (by simp)).trans ha
theorem G65.lossy {w0 W W1 : World} {g gr tr de ai lo : Nat} {s : GccS} {x0 x1 x2 : Int} {x3 : Bool} {x4 : Int} (h : G65 w0 W g gr tr de ai lo s) (hk : KeepBut W W1 lo none) (hl : IsS78 w0 W1 lo x0 x1 x2 x3 x4) : G65 w0 W1 g gr tr de ai lo { s with l0 := x0, l1 := x1, l2 := x2, l3 := x3, l4 := x4 } :=
 ⟨kb_at hk h.blk (bkt h.blk h.lo.1 (by decide)), h.ge, ⟨kb_at hk h.de.1 (bkt h.de.1 h.lo.1 (by decide)), h.de.2⟩, ⟨kb_at hk h.ai.1 (bkt h.ai.1 h.lo.1 (by decide)), h.ai.2⟩, hl⟩
theorem G65.aimd {w0 W W1 : World} {g gr tr de ai lo : Nat} {s : GccS} {x0 x1 x2 x3 : Int} {x4 : Bool} {x5 x6 : Int} {x7 : Bool} {x8 : Int} (h : G65 w0 W g gr tr de ai lo s) (hk : KeepBut W W1 ai none) (hl : IsS76 w0 W1 ai x0 x1 x2 x3 x4 x5 x6 x7 x8) : G65 w0 W1 g gr tr de ai lo { s with a0 := x0, a1 := x1, a2 := x2, a3 := x3, a4 := x4, a5 := x5, a6 := x6, a7 := x7, a8 := x8 } :=
 ⟨kb_at hk h.blk (bkt h.blk h.ai.1 (by decide)), h.ge, ⟨kb_at hk h.de.1 (bkt h.de.1 h.ai.1 (by decide)), h.de.2⟩, hl, ⟨kb_at hk h.lo.1 (bkt h.lo.1 h.ai.1 (by decide)), h.lo.2⟩⟩
theorem G65.det {w0 W W1 : World} {g gr tr de ai lo : Nat} {s : GccS} {x0 x1 x2 x3 x4 x5 : Int} (h : G65 w0 W g gr tr de ai lo s) (hk : KeepBut W W1 de none) (hl : IsS91 w0 W1 de x0 x1 x2 x3 x4 x5) : G65 w0 W1 g gr tr de ai lo { s with d0 := x0, d1 := x1, d2 := x2, d3 := x3, d4 := x4, d5 := x5 } :=
 ⟨kb_at hk h.blk (bkt h.blk h.de.1 (by decide)), h.ge, hl, ⟨kb_at hk h.ai.1 (bkt h.ai.1 h.de.1 (by decide)), h.ai.2⟩, ⟨kb_at hk h.lo.1 (bkt h.lo.1 h.de.1 (by decide)), h.lo.2⟩⟩
def gcc_New.made.f (a0 : Int) (a1 : Int) (a2 : Int) : Option (GccS × Int) := (aimd_New.made.f a0 a1 a2).bind fun (t1, t2, t3, t4, t5, t6, t7, t8, t9, t10) => (lossy_New.made.f a0 a1 a2).bind fun (u1, u2, u3, u4, u5, u6) => (detect_New.f).bind fun (v1, v2, v3, v4, v5, v6) => if t10 = 0 then some (⟨t1, t2, t3, t4, t5, t6, t7, t8, t9, u1, u2, u3, u4, u5, v1, v2, v3, v4, v5, v6, 100000⟩, 0) else none
theorem tmade : trend_New.made.f 20 3865470566 = some (20, 3865470566, 0, 0, 0, [], [], 0, 0) := by rfl
set_option maxHeartbeats 8000000 in
set_option maxRecDepth 100000 in
theorem gcc_New.made.calls (a0 : Int) (a1 : Int) (a2 : Int) (r1 : GccS) (r2 : Int) (w0 w : World) (hB : Below w0.heap.size w0 w) (h : gcc_New.made.f a0 a1 a2 = some (r1, r2)) :
  Calls Tryd.prog 7 #[.int .i64 a0, .int .i64 a1, .int .i64 a2] w fun e w' => ∃ g_ : Nat, e = .returned (.tuple #[.pointer (some ⟨g_, 0, none⟩), .int .i64 r2]) ∧ IsS65 w0 w' g_ r1 ∧ Below w0.heap.size w0 w' ∧ Below w.heap.size w w' := by
 have hu65 := Tryd.underlying65
 have hu63 := Tryd.underlying63
 have HC := Aside0.mk (Below.refl w.heap.size w)
 have HB := Aside0.mk hB
 clear hB
 simp only [gcc_New.made.f] at h
 obtain ⟨⟨t1, t2, t3, t4, t5, t6, t7, t8, t9, t10⟩, A1_, h⟩ := Option.bind_eq_some_iff.mp h
 obtain ⟨⟨u1, u2, u3, u4, u5, u6⟩, A2_, h⟩ := Option.bind_eq_some_iff.mp h
 obtain ⟨⟨v1, v2, v3, v4, v5, v6⟩, A3_, h⟩ := Option.bind_eq_some_iff.mp h
 have A1 := Aside0.mk A1_
 have A2 := Aside0.mk A2_
 have A3 := Aside0.mk A3_
 clear A1_ A2_ A3_
 by_cases c : t10 = 0
 rotate_left
 ·simp [if_neg c] at h
 simp only [if_pos c, Option.some.injEq, Prod.mk.injEq] at h
 obtain ⟨rfl, rfl⟩ := h
 have c0 : (t10 != 0) = false := bne_eq_false_iff_eq.mpr c
 clear c
 go_enter Tryd.func7, Tryd.ntmps7
 go_wp2_with (first | ((with_reducible refine gate_callee (f := 14) rfl ?_); refine goesL_ (some 20) rfl rfl Tryd.func14 (by kernel_rfl) rfl #[.int .i64 a0, .int .i64 a1, .int .i64 a2] rfl (by (try simp only [List.map_toArray, List.map_cons, List.map_nil]); first | done | rfl) ?_; (with_reducible refine (aimd_New.made.calls a0 a1 a2 t1 t2 t3 t4 t5 t6 t7 t8 t9 t10 _ _ (Below.refl _ _) A1.out).mono ?_); rintro e w7 ⟨ai, rfl, hi, hb, hb2⟩; refine ⟨_, rfl, ?_⟩; have n0_ := Aside0.mk (below_step (by repeat (first | (with_reducible first | exact HB.out | apply below_alloc | apply pw_below_drewN | apply below_drew1) | exact HB.out)) hb2); have n1_ := Aside0.mk (below_step (by repeat (first | (with_reducible first | exact HC.out | apply below_alloc | apply pw_below_drewN | apply below_drew1) | exact HC.out)) hb2); have n2_ := Aside0.mk (IsS76.rebase hi (below_size (by repeat (first | (with_reducible first | exact HB.out | apply below_alloc | apply pw_below_drewN | apply below_drew1) | exact HB.out)))); clear HB; clear HC; have HB := n0_; have HC := n1_; have HA := n2_; clear n0_ n1_ n2_) | ((with_reducible refine gate_callee (f := 15) rfl ?_); refine goesL_ (some 30) rfl rfl Tryd.func15 (by kernel_rfl) rfl #[.int .i64 a0, .int .i64 a1, .int .i64 a2] rfl (by (try simp only [List.map_toArray, List.map_cons, List.map_nil]); first | done | rfl) ?_; (with_reducible refine (lossy_New.made.calls a0 a1 a2 u1 u2 u3 u4 u5 u6 _ _ (Below.refl _ _) A2.out).mono ?_); rintro e w8 ⟨lo, rfl, hi, hb, hb2⟩; refine ⟨_, rfl, ?_⟩; have n0_ := Aside0.mk (below_step (by repeat (first | (with_reducible first | exact HB.out | apply below_alloc | apply pw_below_drewN | apply below_drew1) | exact HB.out)) hb2); have n1_ := Aside0.mk (below_step (by repeat (first | (with_reducible first | exact HC.out | apply below_alloc | apply pw_below_drewN | apply below_drew1) | exact HC.out)) hb2); have n2_ := Aside0.mk (IsS76.below (show IsS76 w0 _ _ t1 t2 t3 t4 t5 t6 t7 t8 t9 from (by repeat (first | exact HA.out | apply IsS76.alloc | apply IsS76.drewN | apply IsS76.drew))) hb2); have n3_ := Aside0.mk (IsS78.rebase hi (below_size (by repeat (first | (with_reducible first | exact HB.out | apply below_alloc | apply pw_below_drewN | apply below_drew1) | exact HB.out)))); clear HB; clear HC; clear HA; have HB := n0_; have HC := n1_; have HA := n2_; have HL := n3_; clear n0_ n1_ n2_ n3_) | ((with_reducible refine gate_callee (f := 16) rfl ?_); refine goesL_ (some 34) rfl rfl Tryd.func16 (by kernel_rfl) rfl #[.int .i64 5000] rfl (by (try simp only [List.map_toArray, List.map_cons, List.map_nil]); first | done | rfl) ?_; (with_reducible refine (group_New.calls5 _ _ (Below.refl _ _)).mono ?_); rintro e w9 ⟨gr, rfl, _, _, hb, hb2⟩; refine ⟨_, rfl, ?_⟩; have n0_ := Aside0.mk (below_step (by repeat (first | (with_reducible first | exact HB.out | apply below_alloc | apply pw_below_drewN | apply below_drew1) | exact HB.out)) hb2); have n1_ := Aside0.mk (below_step (by repeat (first | (with_reducible first | exact HC.out | apply below_alloc | apply pw_below_drewN | apply below_drew1) | exact HC.out)) hb2); have n2_ := Aside0.mk (IsS76.below (show IsS76 w0 _ _ t1 t2 t3 t4 t5 t6 t7 t8 t9 from (by repeat (first | exact HA.out | apply IsS76.alloc | apply IsS76.drewN | apply IsS76.drew))) hb2); have n3_ := Aside0.mk (IsS78.below (show IsS78 w0 _ _ u1 u2 u3 u4 u5 from (by repeat (first | exact HL.out | apply IsS78.alloc | apply IsS78.drewN | apply IsS78.drew))) hb2); clear HB; clear HC; clear HA; clear HL; have HB := n0_; have HC := n1_; have HA := n2_; have HL := n3_; clear n0_ n1_ n2_ n3_) | ((with_reducible refine gate_callee (f := 17) rfl ?_); refine goesL_ (some 38) rfl rfl Tryd.func17 (by kernel_rfl) rfl #[.int .i64 20, .int .i64 3865470566] rfl (by (try simp only [List.map_toArray, List.map_cons, List.map_nil]); first | done | rfl) ?_; (with_reducible refine (trend_New.made.calls 20 3865470566 20 3865470566 0 0 0 [] [] 0 0 _ _ (Below.refl _ _) tmade).mono ?_); rintro e w10 ⟨tr, rfl, _, hb, hb2⟩; refine ⟨_, rfl, ?_⟩; have n0_ := Aside0.mk (below_step (by repeat (first | (with_reducible first | exact HB.out | apply below_alloc | apply pw_below_drewN | apply below_drew1) | exact HB.out)) hb2); have n1_ := Aside0.mk (below_step (by repeat (first | (with_reducible first | exact HC.out | apply below_alloc | apply pw_below_drewN | apply below_drew1) | exact HC.out)) hb2); have n2_ := Aside0.mk (IsS76.below (show IsS76 w0 _ _ t1 t2 t3 t4 t5 t6 t7 t8 t9 from (by repeat (first | exact HA.out | apply IsS76.alloc | apply IsS76.drewN | apply IsS76.drew))) hb2); have n3_ := Aside0.mk (IsS78.below (show IsS78 w0 _ _ u1 u2 u3 u4 u5 from (by repeat (first | exact HL.out | apply IsS78.alloc | apply IsS78.drewN | apply IsS78.drew))) hb2); clear HB; clear HC; clear HA; clear HL; have HB := n0_; have HC := n1_; have HA := n2_; have HL := n3_; clear n0_ n1_ n2_ n3_) | ((with_reducible refine gate_callee (f := 18) rfl ?_); refine goesL_ (some 43) rfl rfl Tryd.func18 (by kernel_rfl) rfl #[] rfl (by (try simp only [List.map_toArray, List.map_cons, List.map_nil]); first | done | rfl) ?_; (with_reducible refine (detect_New.calls v1 v2 v3 v4 v5 v6 _ _ (Below.refl _ _) A3.out).mono ?_); rintro e w11 ⟨de, rfl, hi, hb, hb2⟩; refine ⟨_, rfl, ?_⟩; have n0_ := Aside0.mk (below_step (by repeat (first | (with_reducible first | exact HB.out | apply below_alloc | apply pw_below_drewN | apply below_drew1) | exact HB.out)) hb2); have n1_ := Aside0.mk (below_step (by repeat (first | (with_reducible first | exact HC.out | apply below_alloc | apply pw_below_drewN | apply below_drew1) | exact HC.out)) hb2); have n2_ := Aside0.mk (IsS76.below (show IsS76 w0 _ _ t1 t2 t3 t4 t5 t6 t7 t8 t9 from (by repeat (first | exact HA.out | apply IsS76.alloc | apply IsS76.drewN | apply IsS76.drew))) hb2); have n3_ := Aside0.mk (IsS78.below (show IsS78 w0 _ _ u1 u2 u3 u4 u5 from (by repeat (first | exact HL.out | apply IsS78.alloc | apply IsS78.drewN | apply IsS78.drew))) hb2); have n4_ := Aside0.mk (IsS91.rebase hi (below_size (by repeat (first | (with_reducible first | exact HB.out | apply below_alloc | apply pw_below_drewN | apply below_drew1) | exact HB.out)))); clear HB; clear HC; clear HA; clear HL; have HB := n0_; have HC := n1_; have HA := n2_; have HL := n3_; have HD := n4_; clear n0_ n1_ n2_ n3_ n4_) | ((with_reducible refine gate_dst (N := 48) rfl ?_); refine box_event ?hg (N := 48) ?hd (cs := #[.pointer (some ⟨gr, 0, none⟩), .pointer (some ⟨tr, 0, none⟩), .pointer (some ⟨de, 0, none⟩), .pointer (some ⟨ai, 0, none⟩), .pointer (some ⟨lo, 0, none⟩), .int .i64 100000]) (t := 65) ?hr ?_; (case hd => rfl); (case hg => rfl); (case hr => first | (go_simp; done) | (go_simp; rfl)); intro gb hg w12 hbox hb2; have n0_ := Aside0.mk (below_step (by repeat (first | (with_reducible first | exact HB.out | apply below_alloc | apply pw_below_drewN | apply below_drew1) | exact HB.out)) hb2); have n1_ := Aside0.mk (below_step (by repeat (first | (with_reducible first | exact HC.out | apply below_alloc | apply pw_below_drewN | apply below_drew1) | exact HC.out)) hb2); have n2_ := Aside0.mk (IsS76.below (show IsS76 w0 _ _ t1 t2 t3 t4 t5 t6 t7 t8 t9 from (by repeat (first | exact HA.out | apply IsS76.alloc | apply IsS76.drewN | apply IsS76.drew))) hb2); have n3_ := Aside0.mk (IsS78.below (show IsS78 w0 _ _ u1 u2 u3 u4 u5 from (by repeat (first | exact HL.out | apply IsS78.alloc | apply IsS78.drewN | apply IsS78.drew))) hb2); have n4_ := Aside0.mk (IsS91.below (show IsS91 w0 _ _ v1 v2 v3 v4 v5 v6 from (by repeat (first | exact HD.out | apply IsS91.alloc | apply IsS91.drewN | apply IsS91.drew))) hb2); have n5_ := Aside0.mk (hbox); have n6_ := Aside0.mk ((by rw [hg]; exact (below_size (by repeat (first | (with_reducible first | exact HB.out | apply below_alloc | apply pw_below_drewN | apply below_drew1) | exact HB.out))) : w0.heap.size ≤ gb)); clear HB HC HA HL HD; have HB := n0_; have HC := n1_; have HA := n2_; have HL := n3_; have HD := n4_; have HG := n5_; have HGE := n6_; clear n0_ n1_ n2_ n3_ n4_ n5_ n6_ hbox hg))
 go_ret2
 exact ⟨_, rfl, IsS65.below ⟨gr, tr, de, ai, lo, ⟨HG.out, HGE.out, HD.out, HA.out, HL.out⟩⟩ (by repeat (first | exact Below.refl _ _ | apply below_alloc | apply pw_below_drewN | apply below_drew)), by repeat (first | (with_reducible first | exact HB.out | apply below_alloc | apply pw_below_drewN | apply below_drew1) | exact HB.out), by repeat (first | (with_reducible first | exact HC.out | apply below_alloc | apply pw_below_drewN | apply below_drew1) | exact HC.out)⟩
def gcc_New.nil.f (a0 : Int) (a1 : Int) (a2 : Int) : Option Int := (aimd_New.nil.f a0 a1 a2).bind fun t => if t = 0 then none else some t
set_option maxHeartbeats 8000000 in
set_option maxRecDepth 100000 in
theorem gcc_New.nil.calls (a0 : Int) (a1 : Int) (a2 : Int) (r : Int) (w : World) (h : gcc_New.nil.f a0 a1 a2 = some r) :
  Calls Tryd.prog 7 #[.int .i64 a0, .int .i64 a1, .int .i64 a2] w fun e w' => e = .returned (.tuple #[.pointer none, .int .i64 r]) ∧ Below w.heap.size w w' := by
 have HB := Aside0.mk (Below.refl w.heap.size w)
 simp only [gcc_New.nil.f] at h
 obtain ⟨t, A1_, h⟩ := Option.bind_eq_some_iff.mp h
 have A1 := Aside0.mk A1_
 clear A1_
 by_cases c : t = 0
 ·simp [if_pos c] at h
 simp only [if_neg c, Option.some.injEq] at h
 subst h
 have c0 : (t != 0) = true := bne_iff_ne.mpr c
 clear c
 go_enter Tryd.func7, Tryd.ntmps7
 go_wp2_with (first | ((with_reducible refine gate_callee (f := 14) rfl ?_); refine goesL_ (some 20) rfl rfl Tryd.func14 (by kernel_rfl) rfl #[.int .i64 a0, .int .i64 a1, .int .i64 a2] rfl (by (try simp only [List.map_toArray, List.map_cons, List.map_nil]); first | done | rfl) ?_; (with_reducible refine (aimd_New.nil.calls a0 a1 a2 t _ A1.out).mono ?_); rintro e w7 ⟨rfl, hb2⟩; refine ⟨_, rfl, ?_⟩; have n0_ := Aside0.mk (below_step (by repeat (first | (with_reducible first | exact HB.out | apply below_alloc | apply pw_below_drewN | apply below_drew1) | exact HB.out)) hb2); clear HB; have HB := n0_; clear n0_))
 go_ret2
 exact ⟨rfl, by repeat (first | (with_reducible first | exact HB.out | apply below_alloc | apply pw_below_drewN | apply below_drew1) | exact HB.out)⟩
def detect_Detector_Usage.f (s0_0 : Int) (s0_1 : Int) (s0_2 : Int) (s0_3 : Int) (s0_4 : Int) (s0_5 : Int) : Option (Int × Int × Int × Int × Int × Int × Int) := some (s0_0, s0_0, s0_1, s0_2, s0_3, s0_4, s0_5)
set_option maxHeartbeats 8000000 in
set_option maxRecDepth 100000 in
theorem detect_Detector_Usage.calls (g : Nat) (s0_0 : Int) (s0_1 : Int) (s0_2 : Int) (s0_3 : Int) (s0_4 : Int) (s0_5 : Int) (r1 : Int) (r2 : Int) (r3 : Int) (r4 : Int) (r5 : Int) (r6 : Int) (r7 : Int) (w0 w : World) (hI : IsS91 w0 w g s0_0 s0_1 s0_2 s0_3 s0_4 s0_5) (hB : Below w0.heap.size w0 w) (h : detect_Detector_Usage.f s0_0 s0_1 s0_2 s0_3 s0_4 s0_5 = some (r1, r2, r3, r4, r5, r6, r7)) :
  Calls Tryd.prog 27 #[.pointer (some ⟨g, 0, none⟩)] w fun e w' => e = .returned (.int .i64 r1) ∧ IsS91 w0 w' g r2 r3 r4 r5 r6 r7 ∧ Below w0.heap.size w0 w' ∧ KeepBut w w' g none := by
 have hpn60_eql : ∀ (a_ : Addr) (W_ : World), (Go.binOp .eql 60 (.pointer (some a_)) (.pointer none)).run Tryd.prog W_ = .ok (.bool false) W_ := fun _ _ => by kernel_rfl
 have hnn60_eql : ∀ (W_ : World), (Go.binOp .eql 60 (.pointer none) (.pointer none)).run Tryd.prog W_ = .ok (.bool true) W_ := fun _ => by kernel_rfl
 have HI0 := Aside0.mk hI
 have HK := Aside0.mk (KeepBut.refl w g none)
 have HL := Aside0.mk hB.size
 clear hI
 have HW0 := Aside0.mk hB.size
 have HB := Aside0.mk hB
 clear hB
 have H : (some (s0_0, s0_0, s0_1, s0_2, s0_3, s0_4, s0_5)) = some (r1, r2, r3, r4, r5, r6, r7) := h
 clear h
 simp only [Option.some.injEq, Prod.mk.injEq] at H
 obtain ⟨rfl, rfl, rfl, rfl, rfl, rfl, rfl⟩ := H
 obtain ⟨HGz2, hgz2⟩ := HI0.out
 have hcz2_0 := cellS91_0 HGz2
 have hcz2_1 := cellS91_1 HGz2
 have hcz2_2 := cellS91_2 HGz2
 have hcz2_3 := cellS91_3 HGz2
 have hcz2_4 := cellS91_4 HGz2
 have hcz2_5 := cellS91_5 HGz2
 have hfz2_0 := blk_frozen HGz2 0
 have hfz2_1 := blk_frozen HGz2 1
 have hfz2_2 := blk_frozen HGz2 2
 have hfz2_3 := blk_frozen HGz2 3
 have hfz2_4 := blk_frozen HGz2 4
 have hfz2_5 := blk_frozen HGz2 5
 clear HGz2 hgz2
 go_enter Tryd.func27, Tryd.ntmps27
 go_wp2
 go_ret
 exact ⟨by first | rfl | (simp [errW_none, errW_some] <;> rfl) | (simp [*, errW_none, errW_some] <;> rfl), by repeat (first | (with_reducible first | exact HI0.out | apply IsS91.alloc | apply IsS91.drewN | apply IsS91.drew | apply IsS91.set_0 | apply IsS91.set_1 | apply IsS91.set_2 | apply IsS91.set_3 | apply IsS91.set_4 | apply IsS91.set_5) | exact HI0.out), by repeat (first | (with_reducible first | exact HB.out | apply below_alloc | apply pw_below_drewN | apply below_drew1 | refine below_set ?_ (IsS91.ge HI0.out)) | exact HB.out), by repeat (first | (with_reducible first | exact HK.out | apply KeepBut.set_ | apply keep_drewN | apply keep_drew | apply keep_alloc) | exact HK.out)⟩
def gcc_Gcc_Usage.f (s0_0 : GccS) : Option (Int × GccS) := some (s0_0.d0, s0_0)
set_option maxHeartbeats 8000000 in
set_option maxRecDepth 100000 in
theorem gcc_Gcc_Usage.calls (g : Nat) (s0_0 : GccS) (r1 : Int) (r2 : GccS) (w0 w : World) (hI : IsS65 w0 w g s0_0) (hB : Below w0.heap.size w0 w) (h : gcc_Gcc_Usage.f s0_0 = some (r1, r2)) :
  Calls Tryd.prog 12 #[.pointer (some ⟨g, 0, none⟩)] w fun e w' => e = .returned (.int .i64 r1) ∧ IsS65 w0 w' g r2 ∧ Below w0.heap.size w0 w' ∧ True := by
 have hu65 := Tryd.underlying65
 have hu63 := Tryd.underlying63
 have hpn25_eql : ∀ (a_ : Addr) (W_ : World), (Go.binOp .eql 25 (.pointer (some a_)) (.pointer none)).run Tryd.prog W_ = .ok (.bool false) W_ := fun _ _ => by kernel_rfl
 have hnn25_eql : ∀ (W_ : World), (Go.binOp .eql 25 (.pointer none) (.pointer none)).run Tryd.prog W_ = .ok (.bool true) W_ := fun _ => by kernel_rfl
 simp only [gcc_Gcc_Usage.f, Option.some.injEq, Prod.mk.injEq] at h
 obtain ⟨rfl, rfl⟩ := h
 obtain ⟨gr, tr, de, ai, lo, h0⟩ := hI
 have HG := Aside0.mk h0
 have HB := Aside0.mk hB
 clear hB
 have hc2_ : w.cell? ⟨g, 2, none⟩ = some (.pointer (some ⟨de, 0, none⟩)) := (blk_cell h0.blk 2).trans rfl
 have hf2_ := blk_frozen h0.blk 2
 clear h0
 go_enter Tryd.func12, Tryd.ntmps12
 go_wp2_with (first | (go_at_call 27; (with_reducible refine (detect_Detector_Usage.calls de s0_0.d0 s0_0.d1 s0_0.d2 s0_0.d3 s0_0.d4 s0_0.d5 s0_0.d0 s0_0.d0 s0_0.d1 s0_0.d2 s0_0.d3 s0_0.d4 s0_0.d5 w0 _ ?side1 ?side2 rfl).mono ?_); (case side1 => repeat (first | exact HG.out.de | apply IsS91.alloc | apply IsS91.drewN | apply IsS91.drew)); (case side2 => repeat (first | (with_reducible first | exact HB.out | apply below_alloc | apply pw_below_drewN | apply below_drew1) | exact HB.out)); rintro e w9 ⟨rfl, hi, hb, hk⟩; have n0_ := Aside0.mk (G65.det (show G65 w0 _ g gr tr de ai lo s0_0 from by repeat (first | exact HG.out | refine G65.below ?_ (below_alloc (Below.refl _ _) _) | refine G65.below ?_ (pw_below_drewN (Below.refl _ _) _) | refine G65.below ?_ (below_drew (Below.refl _ _)))) hk hi); have n1_ := Aside0.mk hb; clear HG HB; have HG := n0_; have HB := n1_; clear n0_ n1_ hi hb hk))
 go_ret
 exact ⟨rfl, by exact ⟨gr, tr, de, ai, lo, by repeat (first | exact HG.out | refine G65.below ?_ (below_alloc (Below.refl _ _) _) | refine G65.below ?_ (pw_below_drewN (Below.refl _ _) _) | refine G65.below ?_ (below_drew (Below.refl _ _)))⟩, by repeat (first | (with_reducible first | exact HB.out | apply below_alloc | apply pw_below_drewN | apply below_drew1) | exact HB.out), trivial⟩
def gcc_Gcc_Usage.nilrecv.f : Option Int := some 0
set_option maxHeartbeats 8000000 in
set_option maxRecDepth 100000 in
theorem gcc_Gcc_Usage.nilrecv.calls (r : Int) (w : World) (h : gcc_Gcc_Usage.nilrecv.f = some r) :
  Calls Tryd.prog 12 #[.pointer none] w fun e w' => e = .returned (.int .i64 r) ∧ Below w.heap.size w w' := by
 have hpn25_eql : ∀ (a_ : Addr) (W_ : World), (Go.binOp .eql 25 (.pointer (some a_)) (.pointer none)).run Tryd.prog W_ = .ok (.bool false) W_ := fun _ _ => by kernel_rfl
 have hnn25_eql : ∀ (W_ : World), (Go.binOp .eql 25 (.pointer none) (.pointer none)).run Tryd.prog W_ = .ok (.bool true) W_ := fun _ => by kernel_rfl
 have H : (some 0 : Option Int) = some r := h
 clear h
 obtain rfl := Option.some.inj H
 clear H
 go_enter Tryd.func12, Tryd.ntmps12
 go_wp2
 go_ret
 exact ⟨by first | rfl | (simp; done) | (simp [*]; done), by repeat (first | exact Below.refl _ _ | apply below_alloc | apply pw_below_drewN | apply below_drew)⟩
def aimd_Aimd_Rate.f (s0_0 : Int) (s0_1 : Int) (s0_2 : Int) (s0_3 : Int) (s0_4 : Bool) (s0_5 : Int) (s0_6 : Int) (s0_7 : Bool) (s0_8 : Int) : Option (Int × Int × Int × Int × Int × Bool × Int × Int × Bool × Int) := some (s0_0, s0_0, s0_1, s0_2, s0_3, s0_4, s0_5, s0_6, s0_7, s0_8)
set_option maxHeartbeats 8000000 in
set_option maxRecDepth 100000 in
theorem aimd_Aimd_Rate.calls (g : Nat) (s0_0 : Int) (s0_1 : Int) (s0_2 : Int) (s0_3 : Int) (s0_4 : Bool) (s0_5 : Int) (s0_6 : Int) (s0_7 : Bool) (s0_8 : Int) (r1 : Int) (r2 : Int) (r3 : Int) (r4 : Int) (r5 : Int) (r6 : Bool) (r7 : Int) (r8 : Int) (r9 : Bool) (r10 : Int) (w0 w : World) (hI : IsS76 w0 w g s0_0 s0_1 s0_2 s0_3 s0_4 s0_5 s0_6 s0_7 s0_8) (hB : Below w0.heap.size w0 w) (h : aimd_Aimd_Rate.f s0_0 s0_1 s0_2 s0_3 s0_4 s0_5 s0_6 s0_7 s0_8 = some (r1, r2, r3, r4, r5, r6, r7, r8, r9, r10)) :
  Calls Tryd.prog 28 #[.pointer (some ⟨g, 0, none⟩)] w fun e w' => e = .returned (.int .i64 r1) ∧ IsS76 w0 w' g r2 r3 r4 r5 r6 r7 r8 r9 r10 ∧ Below w0.heap.size w0 w' ∧ KeepBut w w' g none := by
 have hpn48_eql : ∀ (a_ : Addr) (W_ : World), (Go.binOp .eql 48 (.pointer (some a_)) (.pointer none)).run Tryd.prog W_ = .ok (.bool false) W_ := fun _ _ => by kernel_rfl
 have hnn48_eql : ∀ (W_ : World), (Go.binOp .eql 48 (.pointer none) (.pointer none)).run Tryd.prog W_ = .ok (.bool true) W_ := fun _ => by kernel_rfl
 have HI0 := Aside0.mk hI
 have HK := Aside0.mk (KeepBut.refl w g none)
 have HL := Aside0.mk hB.size
 clear hI
 have HW0 := Aside0.mk hB.size
 have HB := Aside0.mk hB
 clear hB
 have H : (some (s0_0, s0_0, s0_1, s0_2, s0_3, s0_4, s0_5, s0_6, s0_7, s0_8)) = some (r1, r2, r3, r4, r5, r6, r7, r8, r9, r10) := h
 clear h
 simp only [Option.some.injEq, Prod.mk.injEq] at H
 obtain ⟨rfl, rfl, rfl, rfl, rfl, rfl, rfl, rfl, rfl, rfl⟩ := H
 obtain ⟨HGz2, hgz2⟩ := HI0.out
 have hcz2_0 := cellS76_0 HGz2
 have hcz2_1 := cellS76_1 HGz2
 have hcz2_2 := cellS76_2 HGz2
 have hcz2_3 := cellS76_3 HGz2
 have hcz2_4 := cellS76_4 HGz2
 have hcz2_5 := cellS76_5 HGz2
 have hcz2_6 := cellS76_6 HGz2
 have hcz2_7 := cellS76_7 HGz2
 have hcz2_8 := cellS76_8 HGz2
 have hfz2_0 := blk_frozen HGz2 0
 have hfz2_1 := blk_frozen HGz2 1
 have hfz2_2 := blk_frozen HGz2 2
 have hfz2_3 := blk_frozen HGz2 3
 have hfz2_4 := blk_frozen HGz2 4
 have hfz2_5 := blk_frozen HGz2 5
 have hfz2_6 := blk_frozen HGz2 6
 have hfz2_7 := blk_frozen HGz2 7
 have hfz2_8 := blk_frozen HGz2 8
 clear HGz2 hgz2
 go_enter Tryd.func28, Tryd.ntmps28
 go_wp2
 go_ret
 exact ⟨by first | rfl | (simp [errW_none, errW_some] <;> rfl) | (simp [*, errW_none, errW_some] <;> rfl), by repeat (first | (with_reducible first | exact HI0.out | apply IsS76.alloc | apply IsS76.drewN | apply IsS76.drew | apply IsS76.set_0 | apply IsS76.set_1 | apply IsS76.set_2 | apply IsS76.set_3 | apply IsS76.set_4 | apply IsS76.set_5 | apply IsS76.set_6 | apply IsS76.set_7 | apply IsS76.set_8) | exact HI0.out), by repeat (first | (with_reducible first | exact HB.out | apply below_alloc | apply pw_below_drewN | apply below_drew1 | refine below_set ?_ (IsS76.ge HI0.out)) | exact HB.out), by repeat (first | (with_reducible first | exact HK.out | apply KeepBut.set_ | apply keep_drewN | apply keep_drew | apply keep_alloc) | exact HK.out)⟩
def lossy_Lossy_Rate.f (s0_0 : Int) (s0_1 : Int) (s0_2 : Int) (s0_3 : Bool) (s0_4 : Int) : Option (Int × Int × Int × Int × Bool × Int) := some (s0_0, s0_0, s0_1, s0_2, s0_3, s0_4)
set_option maxHeartbeats 8000000 in
set_option maxRecDepth 100000 in
theorem lossy_Lossy_Rate.calls (g : Nat) (s0_0 : Int) (s0_1 : Int) (s0_2 : Int) (s0_3 : Bool) (s0_4 : Int) (r1 : Int) (r2 : Int) (r3 : Int) (r4 : Int) (r5 : Bool) (r6 : Int) (w0 w : World) (hI : IsS78 w0 w g s0_0 s0_1 s0_2 s0_3 s0_4) (hB : Below w0.heap.size w0 w) (h : lossy_Lossy_Rate.f s0_0 s0_1 s0_2 s0_3 s0_4 = some (r1, r2, r3, r4, r5, r6)) :
  Calls Tryd.prog 29 #[.pointer (some ⟨g, 0, none⟩)] w fun e w' => e = .returned (.int .i64 r1) ∧ IsS78 w0 w' g r2 r3 r4 r5 r6 ∧ Below w0.heap.size w0 w' ∧ KeepBut w w' g none := by
 have hpn51_eql : ∀ (a_ : Addr) (W_ : World), (Go.binOp .eql 51 (.pointer (some a_)) (.pointer none)).run Tryd.prog W_ = .ok (.bool false) W_ := fun _ _ => by kernel_rfl
 have hnn51_eql : ∀ (W_ : World), (Go.binOp .eql 51 (.pointer none) (.pointer none)).run Tryd.prog W_ = .ok (.bool true) W_ := fun _ => by kernel_rfl
 have HI0 := Aside0.mk hI
 have HK := Aside0.mk (KeepBut.refl w g none)
 have HL := Aside0.mk hB.size
 clear hI
 have HW0 := Aside0.mk hB.size
 have HB := Aside0.mk hB
 clear hB
 have H : (some (s0_0, s0_0, s0_1, s0_2, s0_3, s0_4)) = some (r1, r2, r3, r4, r5, r6) := h
 clear h
 simp only [Option.some.injEq, Prod.mk.injEq] at H
 obtain ⟨rfl, rfl, rfl, rfl, rfl, rfl⟩ := H
 obtain ⟨HGz2, hgz2⟩ := HI0.out
 have hcz2_0 := cellS78_0 HGz2
 have hcz2_1 := cellS78_1 HGz2
 have hcz2_2 := cellS78_2 HGz2
 have hcz2_3 := cellS78_3 HGz2
 have hcz2_4 := cellS78_4 HGz2
 have hfz2_0 := blk_frozen HGz2 0
 have hfz2_1 := blk_frozen HGz2 1
 have hfz2_2 := blk_frozen HGz2 2
 have hfz2_3 := blk_frozen HGz2 3
 have hfz2_4 := blk_frozen HGz2 4
 clear HGz2 hgz2
 go_enter Tryd.func29, Tryd.ntmps29
 go_wp2
 go_ret
 exact ⟨by first | rfl | (simp [errW_none, errW_some] <;> rfl) | (simp [*, errW_none, errW_some] <;> rfl), by repeat (first | (with_reducible first | exact HI0.out | apply IsS78.alloc | apply IsS78.drewN | apply IsS78.drew | apply IsS78.set_0 | apply IsS78.set_1 | apply IsS78.set_2 | apply IsS78.set_3 | apply IsS78.set_4) | exact HI0.out), by repeat (first | (with_reducible first | exact HB.out | apply below_alloc | apply pw_below_drewN | apply below_drew1 | refine below_set ?_ (IsS78.ge HI0.out)) | exact HB.out), by repeat (first | (with_reducible first | exact HK.out | apply KeepBut.set_ | apply keep_drewN | apply keep_drew | apply keep_alloc) | exact HK.out)⟩
def gcc_Gcc_Rate.f (s0_0 : GccS) : Option (Int × GccS) := some (mn s0_0.a0 s0_0.l0, s0_0)
def gcc_Gcc_Rate.T3 : Bool × List (List Nat × List Nat) := (true, [([], []), ([0], [0]), ([1], [1]), ([2], [2]), ([3], [3]), ([], []), ([5], [5]), ([6], [6]), ([7], [7]), ([8, 4], [8]), ([4, 9], [4, 9]), ([10, 9, 0, 1, 2, 3, 4, 5, 6, 7, 8, 9, 10], [10])])
def gcc_Gcc_Rate.B3 : List Nat := [0, 1, 3, 7, 15, 0, 32, 96, 224, 511, 1023, 2047]
theorem gcc_Gcc_Rate.tab3 : rtab .any (opsOf Tryd.f13 3) = gcc_Gcc_Rate.T3 := by kernel_rfl
theorem gcc_Gcc_Rate.bits3 : waitsOk gcc_Gcc_Rate.T3.2 gcc_Gcc_Rate.B3 = true := by kernel_rfl
set_option maxHeartbeats 8000000 in
set_option maxRecDepth 100000 in
theorem gcc_Gcc_Rate.calls (g : Nat) (s0_0 : GccS) (r1 : Int) (r2 : GccS) (w0 w : World) (hI : IsS65 w0 w g s0_0) (hB : Below w0.heap.size w0 w) (h : gcc_Gcc_Rate.f s0_0 = some (r1, r2)) :
  Calls Tryd.prog 13 #[.pointer (some ⟨g, 0, none⟩)] w fun e w' => e = .returned (.int .i64 r1) ∧ IsS65 w0 w' g r2 ∧ Below w0.heap.size w0 w' ∧ True := by
 have hu65 := Tryd.underlying65
 have hu63 := Tryd.underlying63
 have hpn25_eql : ∀ (a_ : Addr) (W_ : World), (Go.binOp .eql 25 (.pointer (some a_)) (.pointer none)).run Tryd.prog W_ = .ok (.bool false) W_ := fun _ _ => by kernel_rfl
 have hnn25_eql : ∀ (W_ : World), (Go.binOp .eql 25 (.pointer none) (.pointer none)).run Tryd.prog W_ = .ok (.bool true) W_ := fun _ => by kernel_rfl
 simp only [gcc_Gcc_Rate.f, Option.some.injEq, Prod.mk.injEq] at h
 obtain ⟨rfl, rfl⟩ := h
 obtain ⟨gr, tr, de, ai, lo, h0⟩ := hI
 have HG := Aside0.mk h0
 have HB := Aside0.mk hB
 clear h0 hB
 have hmn : (if s0_0.l0 < s0_0.a0 then s0_0.l0 else s0_0.a0) = mn s0_0.a0 s0_0.l0 := rfl
 go_enter Tryd.func13, Tryd.ntmps13
 try go_wp2
 have n0_ := Aside0.mk (G65.below HG.out (below_drew (Below.refl _ _)))
 have n1_ := Aside0.mk (below_drew HB.out)
 clear HG HB
 have HG := n0_
 have HB := n1_
 clear n0_ n1_
 refine start_ (n := 12) (S := fun w' => w'.cell? ⟨g, 3, none⟩ = some (.pointer (some ⟨ai, 0, none⟩)) ∧ w'.cell? ⟨g, 4, none⟩ = some (.pointer (some ⟨lo, 0, none⟩))) (ds := []) #[false, false, false, false, false, false, false, false, false, false, false, false] (by kernel_rfl) rfl rfl ⟨(blk_cell HG.out.blk 3).trans rfl, (blk_cell HG.out.blk 4).trans rfl⟩ (fun hHeld => ?_); refine with_tabW gcc_Gcc_Rate.tab3 gcc_Gcc_Rate.bits3 (fun HT_ HW_ => ?_)
 generalize World.drew w = w1 at HG HB hHeld ⊢
 refine pure_ (i := 0) (N := some 5) (v := ?_) (a' := ?_) #[true, false, false, false, false, false, false, false, false, false, false, false] rfl rfl (any_of HT_.out (by kernel_rfl)) (fun _ _ _ h => h) (Or.inl ⟨by rfl, ?_⟩) ?_ ?_
 rotate_left
 ·intro w'
  go_simp
  with_reducible rfl
 rotate_left
 ·simp only [Act.put, List.setIfInBounds_toArray, List.set_cons_zero, List.set_cons_succ, i64_w, i32_w]
  rfl
 refine pure_ (i := 1) (N := some 6) (v := ?_) (a' := ?_) #[true, true, false, false, false, false, false, false, false, false, false, false] rfl rfl (any_of HT_.out (by kernel_rfl)) (fun _ _ _ h => h) (Or.inl ⟨by rfl, ?_⟩) ?_ ?_
 rotate_left
 ·intro w'
  go_simp
  with_reducible rfl
 rotate_left
 ·simp only [Act.put, List.setIfInBounds_toArray, List.set_cons_zero, List.set_cons_succ, i64_w, i32_w]
  rfl
 refine pure_ (i := 2) (N := some 7) (v := ?_) (a' := ?_) #[true, true, true, false, false, false, false, false, false, false, false, false] rfl rfl (any_of HT_.out (by kernel_rfl)) (fun _ _ _ h => h) (Or.inl ⟨by rfl, ?_⟩) ?_ ?_
 rotate_left
 ·intro w'
  go_simp
  with_reducible rfl
 rotate_left
 ·simp only [Act.put, List.setIfInBounds_toArray, List.set_cons_zero, List.set_cons_succ, i64_w, i32_w]
  rfl
 refine take_ (i := 3) (N := some 8) (v := ?_) (a' := ?_) #[true, true, true, true, false, false, false, false, false, false, false, false] rfl rfl (take_ofW HT_.out HW_.out (by kernel_rfl)) (fun _ _ _ h => h) (Or.inl ⟨by rfl, ?_⟩) hHeld ?_ ?_
 rotate_left
 ·rintro w' ⟨s0, s1⟩
  go_simp
  with_reducible rfl
 rotate_left
 ·simp only [Act.put, List.setIfInBounds_toArray, List.set_cons_zero, List.set_cons_succ, i64_w, i32_w]
  rfl
 refine pure_ (i := 5) (N := some 10) (v := ?_) (a' := ?_) #[true, true, true, true, false, true, false, false, false, false, false, false] rfl rfl (any_of HT_.out (by kernel_rfl)) (fun _ _ _ h => h) (Or.inl ⟨by rfl, ?_⟩) ?_ ?_
 rotate_left
 ·intro w'
  go_simp
  with_reducible rfl
 rotate_left
 ·simp only [Act.put, List.setIfInBounds_toArray, List.set_cons_zero, List.set_cons_succ, i64_w, i32_w]
  rfl
 refine pure_ (i := 6) (N := some 11) (v := ?_) (a' := ?_) #[true, true, true, true, false, true, true, false, false, false, false, false] rfl rfl (any_of HT_.out (by kernel_rfl)) (fun _ _ _ h => h) (Or.inl ⟨by rfl, ?_⟩) ?_ ?_
 rotate_left
 ·intro w'
  go_simp
  with_reducible rfl
 rotate_left
 ·simp only [Act.put, List.setIfInBounds_toArray, List.set_cons_zero, List.set_cons_succ, i64_w, i32_w]
  rfl
 refine pure_ (i := 7) (N := some 12) (v := ?_) (a' := ?_) #[true, true, true, true, false, true, true, true, false, false, false, false] rfl rfl (any_of HT_.out (by kernel_rfl)) (fun _ _ _ h => h) (Or.inl ⟨by rfl, ?_⟩) ?_ ?_
 rotate_left
 ·intro w'
  go_simp
  with_reducible rfl
 rotate_left
 ·simp only [Act.put, List.setIfInBounds_toArray, List.set_cons_zero, List.set_cons_succ, i64_w, i32_w]
  rfl
 refine take_ (i := 8) (N := some 13) (v := ?_) (a' := ?_) #[true, true, true, true, false, true, true, true, true, false, false, false] rfl rfl (take_ofW HT_.out HW_.out (by kernel_rfl)) (fun _ _ _ h => h) (Or.inl ⟨by rfl, ?_⟩) hHeld ?_ ?_
 rotate_left
 ·rintro w' ⟨s0, s1⟩
  go_simp
  with_reducible rfl
 rotate_left
 ·simp only [Act.put, List.setIfInBounds_toArray, List.set_cons_zero, List.set_cons_succ, i64_w, i32_w]
  rfl
 refine one_ (i := 4) (N := some 9) #[true, true, true, true, true, true, true, true, true, false, false, false] rfl rfl (one_of HT_.out (by kernel_rfl)) (by decide) (fun K hK => ?_)
 refine goes_ Tryd.func28 (by kernel_rfl) rfl #[.pointer (some ⟨ai, 0, none⟩)] (by rfl) rfl rfl (by (try simp only [List.map_toArray, List.map_cons, List.map_nil]); first | done | rfl) ?_
 with_reducible refine (aimd_Aimd_Rate.calls ai s0_0.a0 s0_0.a1 s0_0.a2 s0_0.a3 s0_0.a4 s0_0.a5 s0_0.a6 s0_0.a7 s0_0.a8 s0_0.a0 s0_0.a0 s0_0.a1 s0_0.a2 s0_0.a3 s0_0.a4 s0_0.a5 s0_0.a6 s0_0.a7 s0_0.a8 w0 _ HG.out.ai HB.out rfl).mono ?_
 rintro e w2 ⟨rfl, hi, hb, hk⟩
 have n0_ := Aside0.mk (G65.aimd HG.out hk hi)
 refine ⟨_, rfl, ?_⟩
 have n1_ := Aside0.mk hb
 clear HG HB
 have HG : Aside0 (G65 w0 _ g gr tr de ai lo s0_0) := n0_
 have HB := n1_
 clear n0_ n1_ hi hb hk
 refine hK.out _ _ ⟨(blk_cell HG.out.blk 3).trans rfl, (blk_cell HG.out.blk 4).trans rfl⟩ (fun hHeld => ?_)
 clear hK K
 refine norm_ (a' := ?_) ?_ ?_
 rotate_left
 ·show Act.put _ (some 9) _ = _
  simp only [Act.put, List.setIfInBounds_toArray, List.set_cons_zero, List.set_cons_succ, i64_w, i32_w]
  rfl
 refine one_ (i := 9) (N := some 14) #[true, true, true, true, true, true, true, true, true, true, false, false] rfl rfl (one_of HT_.out (by kernel_rfl)) (by decide) (fun K hK => ?_)
 refine goes_ Tryd.func29 (by kernel_rfl) rfl #[.pointer (some ⟨lo, 0, none⟩)] (by rfl) rfl rfl (by (try simp only [List.map_toArray, List.map_cons, List.map_nil]); first | done | rfl) ?_
 with_reducible refine (lossy_Lossy_Rate.calls lo s0_0.l0 s0_0.l1 s0_0.l2 s0_0.l3 s0_0.l4 s0_0.l0 s0_0.l0 s0_0.l1 s0_0.l2 s0_0.l3 s0_0.l4 w0 _ HG.out.lo HB.out rfl).mono ?_
 rintro e w3 ⟨rfl, hi, hb, hk⟩
 have n0_ := Aside0.mk (G65.lossy HG.out hk hi)
 refine ⟨_, rfl, ?_⟩
 have n1_ := Aside0.mk hb
 clear HG HB
 have HG : Aside0 (G65 w0 _ g gr tr de ai lo s0_0) := n0_
 have HB := n1_
 clear n0_ n1_ hi hb hk
 refine hK.out _ _ ⟨(blk_cell HG.out.blk 3).trans rfl, (blk_cell HG.out.blk 4).trans rfl⟩ (fun hHeld => ?_)
 clear hK K
 refine norm_ (a' := ?_) ?_ ?_
 rotate_left
 ·show Act.put _ (some 14) _ = _
  simp only [Act.put, List.setIfInBounds_toArray, List.set_cons_zero, List.set_cons_succ, i64_w, i32_w]
  rfl
 refine pure_ (i := 10) (N := some 15) (v := ?_) (a' := ?_) #[true, true, true, true, true, true, true, true, true, true, true, false] rfl rfl (any_of HT_.out (by kernel_rfl)) (fun _ _ _ h => h) (Or.inl ⟨by rfl, ?_⟩) ?_ ?_
 rotate_left
 ·intro w'
  go_simp
  with_reducible rfl
 rotate_left
 ·simp only [Act.put, List.setIfInBounds_toArray, List.set_cons_zero, List.set_cons_succ, i64_w, i32_w]
  rfl
 refine pure_ (i := 11) (N := some 2) (v := ?_) (a' := ?_) #[true, true, true, true, true, true, true, true, true, true, true, true] rfl rfl (any_of HT_.out (by kernel_rfl)) (fun _ _ _ h => h) (Or.inl ⟨by rfl, ?_⟩) ?_ ?_
 rotate_left
 ·intro w'
  go_simp
  with_reducible rfl
 rotate_left
 ·simp only [Act.put, List.setIfInBounds_toArray, List.set_cons_zero, List.set_cons_succ, i64_w, i32_w]
  rfl
 refine done_ (done_of HT_.out (by kernel_rfl)) ?_
 try go_wp2
 go_ret
 exact ⟨by first | rfl | (simp only [hmn]; done) | (simp [*]; done), ⟨gr, tr, de, ai, lo, HG.out⟩, HB.out, trivial⟩
def gcc_Gcc_Rate.nilrecv.f : Option Int := some 0
set_option maxHeartbeats 8000000 in
set_option maxRecDepth 100000 in
theorem gcc_Gcc_Rate.nilrecv.calls (r : Int) (w : World) (h : gcc_Gcc_Rate.nilrecv.f = some r) :
  Calls Tryd.prog 13 #[.pointer none] w fun e w' => e = .returned (.int .i64 r) ∧ Below w.heap.size w w' := by
 have hpn25_eql : ∀ (a_ : Addr) (W_ : World), (Go.binOp .eql 25 (.pointer (some a_)) (.pointer none)).run Tryd.prog W_ = .ok (.bool false) W_ := fun _ _ => by kernel_rfl
 have hnn25_eql : ∀ (W_ : World), (Go.binOp .eql 25 (.pointer none) (.pointer none)).run Tryd.prog W_ = .ok (.bool true) W_ := fun _ => by kernel_rfl
 have H : (some 0 : Option Int) = some r := h
 clear h
 obtain rfl := Option.some.inj H
 clear H
 go_enter Tryd.func13, Tryd.ntmps13
 go_wp2
 go_ret
 exact ⟨by first | rfl | (simp; done) | (simp [*]; done), by repeat (first | exact Below.refl _ _ | apply below_alloc | apply pw_below_drewN | apply below_drew)⟩
def add64s (x y c : Int) : Int := (((x.toNat + y.toNat + c.toNat) % 18446744073709551616 : Nat) : Int)
def add64c (x y c : Int) : Int := (((x.toNat + y.toNat + c.toNat) / 18446744073709551616 : Nat) : Int)
theorem run_add64_any (x y c : Int) (hc : c ≤ 1) (w : World) :
  (callFunc 49 #[.int .u64 x, .int .u64 y, .int .u64 c]).run Tryd.prog w = .ok (.value (.tuple #[.int .u64 (add64s x y c), .int .u64 (add64c x y c)])) w := by
 rw [run_callFunc_extern Tryd.func49 (by kernel_rfl) (by kernel_rfl) (by kernel_rfl) (e := add64Entry) (by kernel_rfl)]
 have key : (add64Entry #[.int .u64 x, .int .u64 y, .int .u64 c]).run Tryd.prog w = .ok (.tuple #[.int .u64 (add64s x y c), .int .u64 (add64c x y c)]) w := by
  cases c with
  | ofNat k =>
   have hk : k = 0 ∨ k = 1 := by have : ((k : Nat) : Int) ≤ 1 := hc; omega
   rcases hk with rfl | rfl <;> rfl
  | negSucc n => rfl
 rw [key]
 rfl
theorem run_add64_0 (x y : Int) (w : World) :
  (callFunc 49 #[.int .u64 x, .int .u64 y, .int .u64 0]).run Tryd.prog w = .ok (.value (.tuple #[.int .u64 (add64s x y 0), .int .u64 (add64c x y 0)])) w := run_add64_any x y 0 (by decide) w
theorem run_add64_c (x y c : Int) (hc : decide (c ≤ 1) = true) (w : World) :
  (callFunc 49 #[.int .u64 x, .int .u64 y, .int .u64 c]).run Tryd.prog w = .ok (.value (.tuple #[.int .u64 (add64s x y c), .int .u64 (add64c x y c)])) w := run_add64_any x y c (of_decide_eq_true hc) w
end Go.Proofs.YtphgeljglhjamaaDoor.P
end

section
namespace Go.Proofs.YtphgeljglhjamaaDoor.P
open Go.RowKit Go.Proofs.YtphgeljglhjamaaDoorW.PrintWords Go.Proofs.YtphgeljglhjamaaDoorW.PrintLast Go.Proofs.YtphgeljglhjamaaDoorW.PrintMore
attribute [local go_sem] max2_int min2_int max_two min_two max_three min_three max_four min_four   -- for this text's walks alone
set_option linter.unusedVariables false
set_option linter.unusedSimpArgs false
def sat_Clamp.f (a0 : Int) (a1 : Int) (a2 : Int) : Option (Int) := if a0 < a1 then (some a1) else (if a0 > a2 then (some a2) else (some a0))
set_option maxHeartbeats 8000000 in
set_option maxRecDepth 100000 in
theorem sat_Clamp.calls (a0 : Int) (a1 : Int) (a2 : Int) (r : Int) (w : World) (h : sat_Clamp.f a0 a1 a2 = some r) :
  Calls Tryd.prog 23 #[.int .i64 a0, .int .i64 a1, .int .i64 a2] w fun e w' => e = .returned (.int .i64 r) ∧ Drawn0 w w' := by
 have H : (if a0 < a1 then (some a1) else (if a0 > a2 then (some a2) else (some a0))) = some r := h
 clear h
 by_cases c4 : a0 < a1
 ·rw [if_pos c4] at H
  have c4b0 : decide (a0 < a1) = true := decide_eq_true c4
  clear c4
  obtain rfl := Option.some.inj H
  go_enter Tryd.func23, Tryd.ntmps23
  go_wp2
  go_ret
  exact ⟨by first | rfl | (simp; done) | (simp [*]; done), by repeat (first | exact Drawn0.refl _ | apply Drawn0.step)⟩
 ·rw [if_neg c4] at H
  have c4b0 : decide (a0 < a1) = false := decide_eq_false c4
  clear c4
  by_cases c5 : a0 > a2
  ·rw [if_pos c5] at H
   have c5b0 : decide (a2 < a0) = true := decide_eq_true c5
   clear c5
   obtain rfl := Option.some.inj H
   go_enter Tryd.func23, Tryd.ntmps23
   go_wp2
   go_ret
   exact ⟨by first | rfl | (simp; done) | (simp [*]; done), by repeat (first | exact Drawn0.refl _ | apply Drawn0.step)⟩
  ·rw [if_neg c5] at H
   have c5b0 : decide (a2 < a0) = false := decide_eq_false c5
   clear c5
   obtain rfl := Option.some.inj H
   go_enter Tryd.func23, Tryd.ntmps23
   go_wp2
   go_ret
   exact ⟨by first | rfl | (simp; done) | (simp [*]; done), by repeat (first | exact Drawn0.refl _ | apply Drawn0.step)⟩
def muldiv_size.f (a0 : Int) : Option (Int) := if a0 < 0 then (some (IntKind.u64.wrap (-(IntKind.u64.wrap (a0))))) else (some (IntKind.u64.wrap (a0)))
set_option maxHeartbeats 8000000 in
set_option maxRecDepth 100000 in
theorem muldiv_size.calls (a0 : Int) (r : Int) (w : World) (h : muldiv_size.f a0 = some r) :
  Calls Tryd.prog 57 #[.int .i64 a0] w fun e w' => e = .returned (.int .u64 r) ∧ Drawn0 w w' := by
 have H : (if a0 < 0 then (some (IntKind.u64.wrap (-(IntKind.u64.wrap (a0))))) else (some (IntKind.u64.wrap (a0)))) = some r := h
 clear h
 by_cases c2 : a0 < 0
 ·rw [if_pos c2] at H
  have c2b0 : decide (a0 < 0) = true := decide_eq_true c2
  clear c2
  obtain rfl := Option.some.inj H
  go_enter Tryd.func57, Tryd.ntmps57
  go_wp2
  go_ret
  exact ⟨by first | rfl | (simp; done) | (simp [*]; done), by repeat (first | exact Drawn0.refl _ | apply Drawn0.step)⟩
 ·rw [if_neg c2] at H
  have c2b0 : decide (a0 < 0) = false := decide_eq_false c2
  clear c2
  obtain rfl := Option.some.inj H
  go_enter Tryd.func57, Tryd.ntmps57
  go_wp2
  go_ret
  exact ⟨by first | rfl | (simp; done) | (simp [*]; done), by repeat (first | exact Drawn0.refl _ | apply Drawn0.step)⟩
def bits_Len64.f (a0 : Int) : Option (Int) := if 0 ≤ a0 ∧ a0 ≤ 18446744073709551615 then some (Lib.bitLen a0.toNat) else none
theorem bits_Len64.calls (a0 : Int) (r : Int) (w : World) (h : bits_Len64.f a0 = some r) :
  Calls Tryd.prog 62 #[.int .u64 a0] w fun e w' => e = .returned (.int .i64 r) ∧ Drawn0 w w' := by
 unfold bits_Len64.f at h
 split at h
 ·rename_i hb
  obtain rfl := Option.some.inj h
  refine (Tryd.bits_Len64 a0 w hb.1 hb.2).mono ?_
  rintro e w' ⟨rfl, rfl⟩
  exact ⟨rfl, Drawn0.refl _⟩
 ·cases h
def bits_LeadingZeros64.f (a0 : Int) : Option (Int) := (bits_Len64.f a0).bind fun t132 => (some (wrap64 (64 - t132)))
set_option maxHeartbeats 8000000 in
set_option maxRecDepth 100000 in
theorem bits_LeadingZeros64.calls (a0 : Int) (r : Int) (w : World) (h : bits_LeadingZeros64.f a0 = some r) :
  Calls Tryd.prog 61 #[.int .u64 a0] w fun e w' => e = .returned (.int .i64 r) ∧ Drawn0 w w' := by
 have H : ((bits_Len64.f a0).bind fun t132 => (some (wrap64 (64 - t132)))) = some r := h
 clear h
 replace H := Option.bind_eq_some_iff.mp H
 obtain ⟨t132, A20, H⟩ := H
 replace H : (some (wrap64 (64 - t132))) = some r := H
 have A2 := Aside0.mk A20
 clear A20
 obtain rfl := Option.some.inj H
 go_enter Tryd.func61, Tryd.ntmps61
 go_wp2_with (first | ((with_reducible refine gate_callee (f := 62) rfl ?_); refine goesL_ (some 4) rfl rfl Tryd.func62 (by kernel_rfl) rfl #[.int .u64 a0] rfl (by (try simp only [List.map_toArray, List.map_cons, List.map_nil]); first | done | rfl | (simp only [List.length_drop, List.length_take]; rfl)) ?_; (with_reducible refine (bits_Len64.calls a0 t132 _ A2.out).mono ?_); rintro e w' ⟨rfl, ⟨nd, rfl⟩⟩; refine ⟨_, rfl, ?_⟩))
 go_ret
 exact ⟨by first | rfl | (simp; done) | (simp [*]; done), by repeat (first | exact Drawn0.refl _ | apply Drawn0.step)⟩
mutual
def bits_Div64.j2 : Nat → Int → Int → Int → Int → Int → Int → Int → Int → Option (Int × Int)
 | 0, _, _, _, _, _, _, _, _ => none
 | k + 1, x2, x8, x9, x10, x11, x13, x14, x15 => if x9 = 0 then (none) else (bits_Div64.l1 k x2 x8 x9 x10 x14 x15 (IntKind.u64.wrap ((IntKind.u64.wrap ((IntKind.u64.wrap ((IntKind.u64.wrap (x11 * 4294967296)) + x13)) - (IntKind.u64.wrap (x15 * x2)))) - (IntKind.u64.wrap ((IntKind.u64.wrap (Int.tdiv (IntKind.u64.wrap ((IntKind.u64.wrap ((IntKind.u64.wrap (x11 * 4294967296)) + x13)) - (IntKind.u64.wrap (x15 * x2)))) x9)) * x9)))) (IntKind.u64.wrap ((IntKind.u64.wrap ((IntKind.u64.wrap (x11 * 4294967296)) + x13)) - (IntKind.u64.wrap (x15 * x2)))) (IntKind.u64.wrap (Int.tdiv (IntKind.u64.wrap ((IntKind.u64.wrap ((IntKind.u64.wrap (x11 * 4294967296)) + x13)) - (IntKind.u64.wrap (x15 * x2)))) x9)))
def bits_Div64.l1 : Nat → Int → Int → Int → Int → Int → Int → Int → Int → Int → Option (Int × Int)
 | 0, _, _, _, _, _, _, _, _, _ => none
 | k + 1, x2, x8, x9, x10, x14, x15, x16, x17, x18 => if x18 ≥ 4294967296 then (bits_Div64.j4 k x2 x8 x9 x10 x14 x15 x16 x17 x18 true) else (bits_Div64.j4 k x2 x8 x9 x10 x14 x15 x16 x17 x18 (decide ((IntKind.u64.wrap (x18 * x10)) > (IntKind.u64.wrap ((IntKind.u64.wrap (4294967296 * x16)) + x14)))))
def bits_Div64.j4 : Nat → Int → Int → Int → Int → Int → Int → Int → Int → Int → Bool → Option (Int × Int)
 | 0, _, _, _, _, _, _, _, _, _, _ => none
 | k + 1, x2, x8, x9, x10, x14, x15, x16, x17, x18, x113 => if x113 = true then (if (IntKind.u64.wrap (x16 + x9)) ≥ 4294967296 then (if 0 ≤ x8 then (some (IntKind.u64.wrap ((IntKind.u64.wrap (x15 * 4294967296)) + (IntKind.u64.wrap (x18 - 1))), shr .u64 (IntKind.u64.wrap ((IntKind.u64.wrap ((IntKind.u64.wrap (x17 * 4294967296)) + x14)) - (IntKind.u64.wrap ((IntKind.u64.wrap (x18 - 1)) * x2)))) x8)) else (none)) else (bits_Div64.l1 k x2 x8 x9 x10 x14 x15 (IntKind.u64.wrap (x16 + x9)) x17 (IntKind.u64.wrap (x18 - 1)))) else (if 0 ≤ x8 then (some (IntKind.u64.wrap ((IntKind.u64.wrap (x15 * 4294967296)) + x18), shr .u64 (IntKind.u64.wrap ((IntKind.u64.wrap ((IntKind.u64.wrap (x17 * 4294967296)) + x14)) - (IntKind.u64.wrap (x18 * x2)))) x8)) else (none))
def bits_Div64.l0 : Nat → Int → Int → Int → Int → Int → Int → Int → Int → Int → Option (Int × Int)
 | 0, _, _, _, _, _, _, _, _, _ => none
 | k + 1, x2, x8, x9, x10, x11, x13, x14, x15, x16 => if x15 ≥ 4294967296 then (bits_Div64.j1 k x2 x8 x9 x10 x11 x13 x14 x15 x16 true) else (bits_Div64.j1 k x2 x8 x9 x10 x11 x13 x14 x15 x16 (decide ((IntKind.u64.wrap (x15 * x10)) > (IntKind.u64.wrap ((IntKind.u64.wrap (4294967296 * x16)) + x13)))))
def bits_Div64.j1 : Nat → Int → Int → Int → Int → Int → Int → Int → Int → Int → Bool → Option (Int × Int)
 | 0, _, _, _, _, _, _, _, _, _, _ => none
 | k + 1, x2, x8, x9, x10, x11, x13, x14, x15, x16, x78 => if x78 = true then (if (IntKind.u64.wrap (x16 + x9)) ≥ 4294967296 then (bits_Div64.j2 k x2 x8 x9 x10 x11 x13 x14 (IntKind.u64.wrap (x15 - 1))) else (bits_Div64.l0 k x2 x8 x9 x10 x11 x13 x14 (IntKind.u64.wrap (x15 - 1)) (IntKind.u64.wrap (x16 + x9)))) else (bits_Div64.j2 k x2 x8 x9 x10 x11 x13 x14 x15)
end
def bits_Div64.f (k : Nat) (a0 : Int) (a1 : Int) (a2 : Int) : Option (Int × Int) := if a2 = 0 then (none) else (if a2 ≤ a0 then (none) else (if a0 = 0 then (some (IntKind.u64.wrap (Int.tdiv a1 a2), Int.tmod a1 a2)) else ((bits_LeadingZeros64.f a2).bind fun t133 => (if 0 ≤ (IntKind.u64.wrap (t133)) then (if 0 ≤ (IntKind.u64.wrap (64 - (IntKind.u64.wrap (t133)))) then (if ((shl .u64 a2 (IntKind.u64.wrap (t133))) / 4294967296) = 0 then (none) else (bits_Div64.l0 k (shl .u64 a2 (IntKind.u64.wrap (t133))) (IntKind.u64.wrap (t133)) ((shl .u64 a2 (IntKind.u64.wrap (t133))) / 4294967296) (Go.bits .and .u64 (shl .u64 a2 (IntKind.u64.wrap (t133))) 4294967295) (Go.bits .or .u64 (shl .u64 a0 (IntKind.u64.wrap (t133))) (shr .u64 a1 (IntKind.u64.wrap (64 - (IntKind.u64.wrap (t133)))))) ((shl .u64 a1 (IntKind.u64.wrap (t133))) / 4294967296) (Go.bits .and .u64 (shl .u64 a1 (IntKind.u64.wrap (t133))) 4294967295) (IntKind.u64.wrap (Int.tdiv (Go.bits .or .u64 (shl .u64 a0 (IntKind.u64.wrap (t133))) (shr .u64 a1 (IntKind.u64.wrap (64 - (IntKind.u64.wrap (t133)))))) ((shl .u64 a2 (IntKind.u64.wrap (t133))) / 4294967296))) (IntKind.u64.wrap ((Go.bits .or .u64 (shl .u64 a0 (IntKind.u64.wrap (t133))) (shr .u64 a1 (IntKind.u64.wrap (64 - (IntKind.u64.wrap (t133)))))) - (IntKind.u64.wrap ((IntKind.u64.wrap (Int.tdiv (Go.bits .or .u64 (shl .u64 a0 (IntKind.u64.wrap (t133))) (shr .u64 a1 (IntKind.u64.wrap (64 - (IntKind.u64.wrap (t133)))))) ((shl .u64 a2 (IntKind.u64.wrap (t133))) / 4294967296))) * ((shl .u64 a2 (IntKind.u64.wrap (t133))) / 4294967296))))))) else (none)) else (none)))))
set_option maxHeartbeats 8000000 in
set_option maxRecDepth 100000 in
theorem bits_Div64.calls (k : Nat) (a0 : Int) (a1 : Int) (a2 : Int) (r1 : Int) (r2 : Int) (w : World) (h : bits_Div64.f k a0 a1 a2 = some (r1, r2)) :
  Calls Tryd.prog 60 #[.int .u64 a0, .int .u64 a1, .int .u64 a2] w fun e w' => e = .returned (.tuple #[.int .u64 r1, .int .u64 r2]) ∧ Drawn0 w w' := by
 have H : (if a2 = 0 then (none) else (if a2 ≤ a0 then (none) else (if a0 = 0 then (some (IntKind.u64.wrap (Int.tdiv a1 a2), Int.tmod a1 a2)) else ((bits_LeadingZeros64.f a2).bind fun t133 => (if 0 ≤ (IntKind.u64.wrap (t133)) then (if 0 ≤ (IntKind.u64.wrap (64 - (IntKind.u64.wrap (t133)))) then (if ((shl .u64 a2 (IntKind.u64.wrap (t133))) / 4294967296) = 0 then (none) else (bits_Div64.l0 k (shl .u64 a2 (IntKind.u64.wrap (t133))) (IntKind.u64.wrap (t133)) ((shl .u64 a2 (IntKind.u64.wrap (t133))) / 4294967296) (Go.bits .and .u64 (shl .u64 a2 (IntKind.u64.wrap (t133))) 4294967295) (Go.bits .or .u64 (shl .u64 a0 (IntKind.u64.wrap (t133))) (shr .u64 a1 (IntKind.u64.wrap (64 - (IntKind.u64.wrap (t133)))))) ((shl .u64 a1 (IntKind.u64.wrap (t133))) / 4294967296) (Go.bits .and .u64 (shl .u64 a1 (IntKind.u64.wrap (t133))) 4294967295) (IntKind.u64.wrap (Int.tdiv (Go.bits .or .u64 (shl .u64 a0 (IntKind.u64.wrap (t133))) (shr .u64 a1 (IntKind.u64.wrap (64 - (IntKind.u64.wrap (t133)))))) ((shl .u64 a2 (IntKind.u64.wrap (t133))) / 4294967296))) (IntKind.u64.wrap ((Go.bits .or .u64 (shl .u64 a0 (IntKind.u64.wrap (t133))) (shr .u64 a1 (IntKind.u64.wrap (64 - (IntKind.u64.wrap (t133)))))) - (IntKind.u64.wrap ((IntKind.u64.wrap (Int.tdiv (Go.bits .or .u64 (shl .u64 a0 (IntKind.u64.wrap (t133))) (shr .u64 a1 (IntKind.u64.wrap (64 - (IntKind.u64.wrap (t133)))))) ((shl .u64 a2 (IntKind.u64.wrap (t133))) / 4294967296))) * ((shl .u64 a2 (IntKind.u64.wrap (t133))) / 4294967296))))))) else (none)) else (none)))))) = some (r1, r2) := h
 clear h
 by_cases c4 : a2 = 0
 ·rw [if_pos c4] at H
  exact absurd H (by simp)
 ·rw [if_neg c4] at H
  have c4b0 : (a2 == 0) = false := beq_eq_false_iff_ne.mpr c4
  have c4b1 : (a2 != 0) = true := bne_iff_ne.mpr c4
  by_cases c5 : a2 ≤ a0
  ·rw [if_pos c5] at H
   exact absurd H (by simp)
  ·rw [if_neg c5] at H
   have c5b0 : decide (a2 ≤ a0) = false := decide_eq_false c5
   clear c5
   by_cases c6 : a0 = 0
   ·rw [if_pos c6] at H
    have c6b0 : (a0 == 0) = true := beq_iff_eq.mpr c6
    have c6b1 : (a0 != 0) = false := bne_eq_false_iff_eq.mpr c6
    clear c6
    simp only [Option.some.injEq, Prod.mk.injEq] at H
    obtain ⟨rfl, rfl⟩ := H
    go_enter Tryd.func60, Tryd.ntmps60
    go_wp2
    repeat (go_quiet (fail); try go_wp2)
    go_ret2
    exact ⟨by first | rfl | (simp; done) | (simp [*]; done), by repeat (first | exact Drawn0.refl _ | apply Drawn0.step)⟩
   ·rw [if_neg c6] at H
    have c6b0 : (a0 == 0) = false := beq_eq_false_iff_ne.mpr c6
    have c6b1 : (a0 != 0) = true := bne_iff_ne.mpr c6
    replace H := Option.bind_eq_some_iff.mp H
    obtain ⟨t133, A70, H⟩ := H
    replace H : (if 0 ≤ (IntKind.u64.wrap (t133)) then (if 0 ≤ (IntKind.u64.wrap (64 - (IntKind.u64.wrap (t133)))) then (if ((shl .u64 a2 (IntKind.u64.wrap (t133))) / 4294967296) = 0 then (none) else (bits_Div64.l0 k (shl .u64 a2 (IntKind.u64.wrap (t133))) (IntKind.u64.wrap (t133)) ((shl .u64 a2 (IntKind.u64.wrap (t133))) / 4294967296) (Go.bits .and .u64 (shl .u64 a2 (IntKind.u64.wrap (t133))) 4294967295) (Go.bits .or .u64 (shl .u64 a0 (IntKind.u64.wrap (t133))) (shr .u64 a1 (IntKind.u64.wrap (64 - (IntKind.u64.wrap (t133)))))) ((shl .u64 a1 (IntKind.u64.wrap (t133))) / 4294967296) (Go.bits .and .u64 (shl .u64 a1 (IntKind.u64.wrap (t133))) 4294967295) (IntKind.u64.wrap (Int.tdiv (Go.bits .or .u64 (shl .u64 a0 (IntKind.u64.wrap (t133))) (shr .u64 a1 (IntKind.u64.wrap (64 - (IntKind.u64.wrap (t133)))))) ((shl .u64 a2 (IntKind.u64.wrap (t133))) / 4294967296))) (IntKind.u64.wrap ((Go.bits .or .u64 (shl .u64 a0 (IntKind.u64.wrap (t133))) (shr .u64 a1 (IntKind.u64.wrap (64 - (IntKind.u64.wrap (t133)))))) - (IntKind.u64.wrap ((IntKind.u64.wrap (Int.tdiv (Go.bits .or .u64 (shl .u64 a0 (IntKind.u64.wrap (t133))) (shr .u64 a1 (IntKind.u64.wrap (64 - (IntKind.u64.wrap (t133)))))) ((shl .u64 a2 (IntKind.u64.wrap (t133))) / 4294967296))) * ((shl .u64 a2 (IntKind.u64.wrap (t133))) / 4294967296))))))) else (none)) else (none)) = some (r1, r2) := H
    have A7 := Aside0.mk A70
    clear A70
    obtain ⟨ji8, hji8⟩ : ∃ j_ : Int, (IntKind.u64.wrap (t133)) = j_ := ⟨_, rfl⟩
    replace H : (if 0 ≤ (ji8) then (if 0 ≤ (IntKind.u64.wrap (64 - (ji8))) then (if ((shl .u64 a2 (ji8)) / 4294967296) = 0 then (none) else (bits_Div64.l0 k (shl .u64 a2 (ji8)) ji8 ((shl .u64 a2 (ji8)) / 4294967296) (Go.bits .and .u64 (shl .u64 a2 (ji8)) 4294967295) (Go.bits .or .u64 (shl .u64 a0 (ji8)) (shr .u64 a1 (IntKind.u64.wrap (64 - (ji8))))) ((shl .u64 a1 (ji8)) / 4294967296) (Go.bits .and .u64 (shl .u64 a1 (ji8)) 4294967295) (IntKind.u64.wrap (Int.tdiv (Go.bits .or .u64 (shl .u64 a0 (ji8)) (shr .u64 a1 (IntKind.u64.wrap (64 - (ji8))))) ((shl .u64 a2 (ji8)) / 4294967296))) (IntKind.u64.wrap ((Go.bits .or .u64 (shl .u64 a0 (ji8)) (shr .u64 a1 (IntKind.u64.wrap (64 - (ji8))))) - (IntKind.u64.wrap ((IntKind.u64.wrap (Int.tdiv (Go.bits .or .u64 (shl .u64 a0 (ji8)) (shr .u64 a1 (IntKind.u64.wrap (64 - (ji8))))) ((shl .u64 a2 (ji8)) / 4294967296))) * ((shl .u64 a2 (ji8)) / 4294967296))))))) else (none)) else (none)) = some (r1, r2) := by first | (rw [hji8] at H; exact H) | (simp only [hji8] at H ⊢; exact H)
    (try rw [hji8] at A7)
    by_cases c9 : 0 ≤ (ji8)
    ·rw [if_pos c9] at H
     have c9b0 := eq_true c9
     have c9b1 : decide (0 ≤ (ji8)) = true := decide_eq_true c9
     clear c9
     obtain ⟨ji10, hji10⟩ : ∃ j_ : Int, (shl .u64 a2 (ji8)) = j_ := ⟨_, rfl⟩
     replace H : (if 0 ≤ (IntKind.u64.wrap (64 - (ji8))) then (if ((ji10) / 4294967296) = 0 then (none) else (bits_Div64.l0 k ji10 ji8 ((ji10) / 4294967296) (Go.bits .and .u64 (ji10) 4294967295) (Go.bits .or .u64 (shl .u64 a0 (ji8)) (shr .u64 a1 (IntKind.u64.wrap (64 - (ji8))))) ((shl .u64 a1 (ji8)) / 4294967296) (Go.bits .and .u64 (shl .u64 a1 (ji8)) 4294967295) (IntKind.u64.wrap (Int.tdiv (Go.bits .or .u64 (shl .u64 a0 (ji8)) (shr .u64 a1 (IntKind.u64.wrap (64 - (ji8))))) ((ji10) / 4294967296))) (IntKind.u64.wrap ((Go.bits .or .u64 (shl .u64 a0 (ji8)) (shr .u64 a1 (IntKind.u64.wrap (64 - (ji8))))) - (IntKind.u64.wrap ((IntKind.u64.wrap (Int.tdiv (Go.bits .or .u64 (shl .u64 a0 (ji8)) (shr .u64 a1 (IntKind.u64.wrap (64 - (ji8))))) ((ji10) / 4294967296))) * ((ji10) / 4294967296))))))) else (none)) = some (r1, r2) := by first | (rw [hji10] at H; exact H) | (simp only [hji10] at H ⊢; exact H)
     (try rw [hji10] at A7)
     have hji10_ : (IntKind.u64.wrap (a2 * 2 ^ min (ji8).toNat 64)) = ji10 := hji10
     have hji10z : (ji8) ≤ 64 → (IntKind.u64.wrap (a2 * 2 ^ (ji8).toNat)) = ji10 := shl_small hji10
     have c11b0 := eq_true (of_decide_eq_true (by first | (with_reducible assumption) | assumption) : 0 ≤ (ji8))
     obtain ⟨ji12, hji12⟩ : ∃ j_ : Int, (shl .u64 a0 (ji8)) = j_ := ⟨_, rfl⟩
     replace H : (if 0 ≤ (IntKind.u64.wrap (64 - (ji8))) then (if ((ji10) / 4294967296) = 0 then (none) else (bits_Div64.l0 k ji10 ji8 ((ji10) / 4294967296) (Go.bits .and .u64 (ji10) 4294967295) (Go.bits .or .u64 (ji12) (shr .u64 a1 (IntKind.u64.wrap (64 - (ji8))))) ((shl .u64 a1 (ji8)) / 4294967296) (Go.bits .and .u64 (shl .u64 a1 (ji8)) 4294967295) (IntKind.u64.wrap (Int.tdiv (Go.bits .or .u64 (ji12) (shr .u64 a1 (IntKind.u64.wrap (64 - (ji8))))) ((ji10) / 4294967296))) (IntKind.u64.wrap ((Go.bits .or .u64 (ji12) (shr .u64 a1 (IntKind.u64.wrap (64 - (ji8))))) - (IntKind.u64.wrap ((IntKind.u64.wrap (Int.tdiv (Go.bits .or .u64 (ji12) (shr .u64 a1 (IntKind.u64.wrap (64 - (ji8))))) ((ji10) / 4294967296))) * ((ji10) / 4294967296))))))) else (none)) = some (r1, r2) := by first | (rw [hji12] at H; exact H) | (simp only [hji12] at H ⊢; exact H)
     (try rw [hji12] at A7)
     have hji12_ : (IntKind.u64.wrap (a0 * 2 ^ min (ji8).toNat 64)) = ji12 := hji12
     have hji12z : (ji8) ≤ 64 → (IntKind.u64.wrap (a0 * 2 ^ (ji8).toNat)) = ji12 := shl_small hji12
     obtain ⟨ji13, hji13⟩ : ∃ j_ : Int, (IntKind.u64.wrap (64 - (ji8))) = j_ := ⟨_, rfl⟩
     replace H : (if 0 ≤ (ji13) then (if ((ji10) / 4294967296) = 0 then (none) else (bits_Div64.l0 k ji10 ji8 ((ji10) / 4294967296) (Go.bits .and .u64 (ji10) 4294967295) (Go.bits .or .u64 (ji12) (shr .u64 a1 (ji13))) ((shl .u64 a1 (ji8)) / 4294967296) (Go.bits .and .u64 (shl .u64 a1 (ji8)) 4294967295) (IntKind.u64.wrap (Int.tdiv (Go.bits .or .u64 (ji12) (shr .u64 a1 (ji13))) ((ji10) / 4294967296))) (IntKind.u64.wrap ((Go.bits .or .u64 (ji12) (shr .u64 a1 (ji13))) - (IntKind.u64.wrap ((IntKind.u64.wrap (Int.tdiv (Go.bits .or .u64 (ji12) (shr .u64 a1 (ji13))) ((ji10) / 4294967296))) * ((ji10) / 4294967296))))))) else (none)) = some (r1, r2) := by first | (rw [hji13] at H; exact H) | (simp only [hji13] at H ⊢; exact H)
     (try rw [hji13] at A7)
     by_cases c14 : 0 ≤ (ji13)
     ·rw [if_pos c14] at H
      have c14b0 := eq_true c14
      have c14b1 : decide (0 ≤ (ji13)) = true := decide_eq_true c14
      clear c14
      obtain ⟨ji15, hji15⟩ : ∃ j_ : Int, (shr .u64 a1 (ji13)) = j_ := ⟨_, rfl⟩
      replace H : (if ((ji10) / 4294967296) = 0 then (none) else (bits_Div64.l0 k ji10 ji8 ((ji10) / 4294967296) (Go.bits .and .u64 (ji10) 4294967295) (Go.bits .or .u64 (ji12) (ji15)) ((shl .u64 a1 (ji8)) / 4294967296) (Go.bits .and .u64 (shl .u64 a1 (ji8)) 4294967295) (IntKind.u64.wrap (Int.tdiv (Go.bits .or .u64 (ji12) (ji15)) ((ji10) / 4294967296))) (IntKind.u64.wrap ((Go.bits .or .u64 (ji12) (ji15)) - (IntKind.u64.wrap ((IntKind.u64.wrap (Int.tdiv (Go.bits .or .u64 (ji12) (ji15)) ((ji10) / 4294967296))) * ((ji10) / 4294967296))))))) = some (r1, r2) := by first | (rw [hji15] at H; exact H) | (simp only [hji15] at H ⊢; exact H)
      (try rw [hji15] at A7)
      have hji15_ : (a1 / 2 ^ min (ji13).toNat 64) = ji15 := hji15
      have hji15z : (ji13) ≤ 64 → (a1 / 2 ^ (ji13).toNat) = ji15 := shr_small hji15
      have c16b0 := eq_true (of_decide_eq_true (by first | (with_reducible assumption) | assumption) : 0 ≤ (ji8))
      obtain ⟨ji17, hji17⟩ : ∃ j_ : Int, (shl .u64 a1 (ji8)) = j_ := ⟨_, rfl⟩
      replace H : (if ((ji10) / 4294967296) = 0 then (none) else (bits_Div64.l0 k ji10 ji8 ((ji10) / 4294967296) (Go.bits .and .u64 (ji10) 4294967295) (Go.bits .or .u64 (ji12) (ji15)) ((ji17) / 4294967296) (Go.bits .and .u64 (ji17) 4294967295) (IntKind.u64.wrap (Int.tdiv (Go.bits .or .u64 (ji12) (ji15)) ((ji10) / 4294967296))) (IntKind.u64.wrap ((Go.bits .or .u64 (ji12) (ji15)) - (IntKind.u64.wrap ((IntKind.u64.wrap (Int.tdiv (Go.bits .or .u64 (ji12) (ji15)) ((ji10) / 4294967296))) * ((ji10) / 4294967296))))))) = some (r1, r2) := by first | (rw [hji17] at H; exact H) | (simp only [hji17] at H ⊢; exact H)
      (try rw [hji17] at A7)
      have hji17_ : (IntKind.u64.wrap (a1 * 2 ^ min (ji8).toNat 64)) = ji17 := hji17
      have hji17z : (ji8) ≤ 64 → (IntKind.u64.wrap (a1 * 2 ^ (ji8).toNat)) = ji17 := shl_small hji17
      by_cases c18 : ((ji10) / 4294967296) = 0
      ·rw [if_pos c18] at H
       exact absurd H (by simp)
      ·rw [if_neg c18] at H
       have c18b0 : (((ji10) / 4294967296) == 0) = false := beq_eq_false_iff_ne.mpr c18
       have c18b1 : (((ji10) / 4294967296) != 0) = true := bne_iff_ne.mpr c18
       have HC19 := Aside0.mk H
       clear H
       go_enter Tryd.func60, Tryd.ntmps60
       go_upto_block 0 with (first | (go_at_call 61; (with_reducible refine (bits_LeadingZeros64.calls a2 t133 _ A7.out).mono ?_); rintro e w' ⟨rfl, ⟨nd, rfl⟩⟩; (try first | exact ⟨rfl, _, World.drewN_drewN _ _ _⟩ | exact ⟨rfl, _, Eq.trans (World.drewN_drewN _ _ _) (congrArg (World.drewN _) (Nat.add_assoc _ _ _))⟩)))
       repeat (go_quiet (first | (go_at_call 61; (with_reducible refine (bits_LeadingZeros64.calls a2 t133 _ A7.out).mono ?_); rintro e w' ⟨rfl, ⟨nd, rfl⟩⟩; (try first | exact ⟨rfl, _, World.drewN_drewN _ _ _⟩ | exact ⟨rfl, _, Eq.trans (World.drewN_drewN _ _ _) (congrArg (World.drewN _) (Nat.add_assoc _ _ _))⟩))); go_upto_block 0 with (first | (go_at_call 61; (with_reducible refine (bits_LeadingZeros64.calls a2 t133 _ A7.out).mono ?_); rintro e w' ⟨rfl, ⟨nd, rfl⟩⟩; (try first | exact ⟨rfl, _, World.drewN_drewN _ _ _⟩ | exact ⟨rfl, _, Eq.trans (World.drewN_drewN _ _ _) (congrArg (World.drewN _) (Nat.add_assoc _ _ _))⟩))))
       (try simp only [Act.put, List.setIfInBounds_toArray, List.set_cons_zero, List.set_cons_succ])
       go_cut [15] (fun v15 wc => ∃ (kq : Nat) (x15_18 : Int), v15 = .int .u64 x15_18 ∧ Aside0 (bits_Div64.j2 kq ji10 ji8 ((ji10) / 4294967296) (Go.bits .and .u64 (ji10) 4294967295) (Go.bits .or .u64 (ji12) (ji15)) ((ji17) / 4294967296) (Go.bits .and .u64 (ji17) 4294967295) x15_18 = some (r1, r2)) ∧ Aside0 (kq ≤ k) ∧ Drawn0 w wc)
       case first =>
        have H := HC19.out
        clear HC19
        have H' := Aside0.mk H
        clear H
        go_wp2
        repeat (go_quiet (fail); try go_wp2)
        go_loopg [15, 16] k (fun kq v15 v16 w' => ∃ (x15_1 : Int) (x16_1 : Int), v15 = .int .u64 x15_1 ∧ v16 = .int .u64 x16_1 ∧ Aside0 (bits_Div64.l0 kq ji10 ji8 ((ji10) / 4294967296) (Go.bits .and .u64 (ji10) 4294967295) (Go.bits .or .u64 (ji12) (ji15)) ((ji17) / 4294967296) (Go.bits .and .u64 (ji17) 4294967295) x15_1 x16_1 = some (r1, r2)) ∧ Aside0 (kq ≤ k) ∧ Drawn0 w w')
        case atStart => exact ⟨(IntKind.u64.wrap (Int.tdiv (Go.bits .or .u64 (ji12) (ji15)) ((ji10) / 4294967296))), (IntKind.u64.wrap ((Go.bits .or .u64 (ji12) (ji15)) - (IntKind.u64.wrap ((IntKind.u64.wrap (Int.tdiv (Go.bits .or .u64 (ji12) (ji15)) ((ji10) / 4294967296))) * ((ji10) / 4294967296))))), (by first | rfl | (simp; done) | (simp only [← hji10, ← hji12, ← hji15] <;> (first | rfl | simp)) | (simp [*]; done)), (by first | rfl | (simp; done) | (simp only [← hji10, ← hji12, ← hji15] <;> (first | rfl | simp)) | (simp [*]; done)), H', ⟨Nat.le_refl _⟩, by repeat (first | exact Drawn0.refl _ | apply Drawn0.step)⟩
        case round =>
         clear H'
         try clear c1
         try clear p2
         try clear c4
         try clear c4b0
         try clear c4b1
         try clear c5
         try clear c5b0
         try clear c6
         try clear c6b0
         try clear c6b1
         try clear c9
         try clear c9b0
         try clear c9b1
         try clear c11
         try clear c11b0
         try clear c14
         try clear c14b0
         try clear c14b1
         try clear c16
         try clear c16b0
         try clear c18
         try clear c18b0
         try clear c18b1
         obtain ⟨x15_1, x16_1, rfl, rfl, HA, HK1, ⟨m1, rfl⟩⟩ := hrel
         cases gk with
         | zero => exact absurd HA.out (by simp [bits_Div64.l0])
         | succ k1 =>
          have H := HA.out
          clear HA
          simp only [bits_Div64.l0] at H
          have HC20 := Aside0.mk H
          clear H
          go_upto_region 17 with (fail)
          repeat (go_quiet (fail); go_upto_region 17 with (fail))
          go_cut [78] (fun v78 wc => ∃ (kq : Nat) (x78_19 : Bool), v78 = .bool x78_19 ∧ Aside0 (bits_Div64.j1 kq ji10 ji8 ((ji10) / 4294967296) (Go.bits .and .u64 (ji10) 4294967295) (Go.bits .or .u64 (ji12) (ji15)) ((ji17) / 4294967296) (Go.bits .and .u64 (ji17) 4294967295) x15_1 x16_1 x78_19 = some (r1, r2)) ∧ Aside0 (kq ≤ k1) ∧ Drawn0 w wc)
          case first =>
           have H := HC20.out
           clear HC20
           by_cases c21 : x15_1 ≥ 4294967296
           ·rw [if_pos c21] at H
            have c21b0 : decide (4294967296 ≤ x15_1) = true := decide_eq_true c21
            clear c21
            (first | rw [c21b0] | (simp only [i64_w, i32_w]; rw [c21b0]) | skip)
            have H' := Aside0.mk H
            clear H
            go_wp2
            repeat (go_quiet (fail); try go_wp2)
            go_meet
            case rel => exact ⟨_, (true), (by first | rfl | (simp; done) | (simp [*]; done)), H', ⟨by have := HK1.out; first | omega | exact Nat.le_refl _⟩, by repeat (first | exact Drawn0.refl _ | apply Drawn0.step)⟩
           ·rw [if_neg c21] at H
            have c21b0 : decide (4294967296 ≤ x15_1) = false := decide_eq_false c21
            clear c21
            (first | rw [c21b0] | (simp only [i64_w, i32_w]; rw [c21b0]) | skip)
            have H' := Aside0.mk H
            clear H
            go_wp2
            repeat (go_quiet (fail); try go_wp2)
            go_meet
            case rel => exact ⟨_, (decide ((IntKind.u64.wrap (x15_1 * (Go.bits .and .u64 (ji10) 4294967295))) > (IntKind.u64.wrap ((IntKind.u64.wrap (4294967296 * x16_1)) + ((ji17) / 4294967296))))), (by first | rfl | (simp; done) | (simp only [← hji10, ← hji17] <;> (first | rfl | simp)) | (simp [*]; done)), H', ⟨by have := HK1.out; first | omega | exact Nat.le_refl _⟩, by repeat (first | exact Drawn0.refl _ | apply Drawn0.step)⟩
          case rest =>
           clear HC20
           try clear c1
           try clear c2
           try clear p2
           try clear c4
           try clear c4b0
           try clear c4b1
           try clear c5
           try clear c5b0
           try clear c6
           try clear c6b0
           try clear c6b1
           try clear c9
           try clear c9b0
           try clear c9b1
           try clear c11
           try clear c11b0
           try clear c14
           try clear c14b0
           try clear c14b1
           try clear c16
           try clear c16b0
           try clear c18
           try clear c18b0
           try clear c18b1
           try clear c21
           try clear c21b0
           try clear p2
           obtain ⟨kq, x78_19, rfl, HA, HJ19, ⟨mc19, rfl⟩⟩ := hcut
           cases kq with
           | zero => exact absurd HA.out (by simp [bits_Div64.j1])
           | succ kj19 =>
            have H := HA.out
            clear HA
            simp only [bits_Div64.j1] at H
            by_cases c22 : x78_19 = true
            ·subst c22
             have H1 : (if (IntKind.u64.wrap (x16_1 + ((ji10) / 4294967296))) ≥ 4294967296 then (bits_Div64.j2 kj19 ji10 ji8 ((ji10) / 4294967296) (Go.bits .and .u64 (ji10) 4294967295) (Go.bits .or .u64 (ji12) (ji15)) ((ji17) / 4294967296) (Go.bits .and .u64 (ji17) 4294967295) (IntKind.u64.wrap (x15_1 - 1))) else (bits_Div64.l0 kj19 ji10 ji8 ((ji10) / 4294967296) (Go.bits .and .u64 (ji10) 4294967295) (Go.bits .or .u64 (ji12) (ji15)) ((ji17) / 4294967296) (Go.bits .and .u64 (ji17) 4294967295) (IntKind.u64.wrap (x15_1 - 1)) (IntKind.u64.wrap (x16_1 + ((ji10) / 4294967296))))) = some (r1, r2) := by rw [if_pos rfl] at H; exact H
             clear H
             have H := H1
             clear H1
             by_cases c23 : (IntKind.u64.wrap (x16_1 + ((ji10) / 4294967296))) ≥ 4294967296
             ·rw [if_pos c23] at H
              have c23b0 : decide (4294967296 ≤ (IntKind.u64.wrap (x16_1 + ((ji10) / 4294967296)))) = true := decide_eq_true c23
              clear c23
              have H' := Aside0.mk H
              clear H
              go_wp2
              repeat (go_quiet (fail); try go_wp2)
              go_meet
              case rel => exact ⟨_, (IntKind.u64.wrap (x15_1 - 1)), (by first | rfl | (simp; done) | (simp [*]; done)), H', ⟨by have := HK1.out; have := HJ19.out; first | omega | exact Nat.le_refl _⟩, by repeat (first | exact Drawn0.refl _ | apply Drawn0.step)⟩
             ·rw [if_neg c23] at H
              have c23b0 : decide (4294967296 ≤ (IntKind.u64.wrap (x16_1 + ((ji10) / 4294967296)))) = false := decide_eq_false c23
              clear c23
              have H' := Aside0.mk H
              clear H
              go_wp2
              repeat (go_quiet (fail); try go_wp2)
              go_roundg kj19
              case measure => have := HK1.out; have := HJ19.out; omega
              case rel => exact ⟨(IntKind.u64.wrap (x15_1 - 1)), (IntKind.u64.wrap (x16_1 + ((ji10) / 4294967296))), (by first | rfl | (simp; done) | (simp [*]; done)), (by first | rfl | (simp; done) | (simp only [← hji10] <;> (first | rfl | simp)) | (simp [*]; done)), H', ⟨by have := HK1.out; have := HJ19.out; omega⟩, by repeat (first | exact Drawn0.refl _ | apply Drawn0.step)⟩
            ·replace c22 := Bool.eq_false_iff.mpr c22
             subst c22
             have H1 : (bits_Div64.j2 kj19 ji10 ji8 ((ji10) / 4294967296) (Go.bits .and .u64 (ji10) 4294967295) (Go.bits .or .u64 (ji12) (ji15)) ((ji17) / 4294967296) (Go.bits .and .u64 (ji17) 4294967295) x15_1) = some (r1, r2) := by rw [if_neg (show ¬ (false = true) by decide)] at H; exact H
             clear H
             have H := H1
             clear H1
             have H' := Aside0.mk H
             clear H
             go_wp2
             repeat (go_quiet (fail); try go_wp2)
             go_meet
             case rel => exact ⟨_, (x15_1), (by first | rfl | (simp; done) | (simp [*]; done)), H', ⟨by have := HK1.out; have := HJ19.out; first | omega | exact Nat.le_refl _⟩, by repeat (first | exact Drawn0.refl _ | apply Drawn0.step)⟩
       case rest =>
        clear HC19
        try clear c1
        try clear c2
        try clear p2
        try clear c4
        try clear c4b0
        try clear c4b1
        try clear c5
        try clear c5b0
        try clear c6
        try clear c6b0
        try clear c6b1
        try clear c9
        try clear c9b0
        try clear c9b1
        try clear c11
        try clear c11b0
        try clear c14
        try clear c14b0
        try clear c14b1
        try clear c16
        try clear c16b0
        try clear c18
        try clear c18b0
        try clear c18b1
        try clear c19
        try clear c21
        try clear c21b0
        try clear c22
        try clear c23
        try clear c23b0
        try clear p2
        obtain ⟨kq, x15_18, rfl, HA, HJ18, ⟨mc18, rfl⟩⟩ := hcut
        cases kq with
        | zero => exact absurd HA.out (by simp [bits_Div64.j2])
        | succ kj18 =>
         have H := HA.out
         clear HA
         simp only [bits_Div64.j2] at H
         by_cases c24 : ((ji10) / 4294967296) = 0
         ·rw [if_pos c24] at H
          exact absurd H (by simp)
         ·rw [if_neg c24] at H
          have c24b0 : (((ji10) / 4294967296) == 0) = false := beq_eq_false_iff_ne.mpr c24
          have c24b1 : (((ji10) / 4294967296) != 0) = true := bne_iff_ne.mpr c24
          have H' := Aside0.mk H
          clear H
          go_wp2
          repeat (go_quiet (fail); try go_wp2)
          go_loopg [16, 18] kj18 (fun kq v16 v18 w' => ∃ (x16_2 : Int) (x18_2 : Int), v16 = .int .u64 x16_2 ∧ v18 = .int .u64 x18_2 ∧ Aside0 (bits_Div64.l1 kq ji10 ji8 ((ji10) / 4294967296) (Go.bits .and .u64 (ji10) 4294967295) (Go.bits .and .u64 (ji17) 4294967295) x15_18 x16_2 (IntKind.u64.wrap ((IntKind.u64.wrap ((IntKind.u64.wrap ((Go.bits .or .u64 (ji12) (ji15)) * 4294967296)) + ((ji17) / 4294967296))) - (IntKind.u64.wrap (x15_18 * ji10)))) x18_2 = some (r1, r2)) ∧ Aside0 (kq ≤ kj18) ∧ Drawn0 w w')
          case atStart => exact ⟨(IntKind.u64.wrap ((IntKind.u64.wrap ((IntKind.u64.wrap ((IntKind.u64.wrap ((Go.bits .or .u64 (ji12) (ji15)) * 4294967296)) + ((ji17) / 4294967296))) - (IntKind.u64.wrap (x15_18 * ji10)))) - (IntKind.u64.wrap ((IntKind.u64.wrap (Int.tdiv (IntKind.u64.wrap ((IntKind.u64.wrap ((IntKind.u64.wrap ((Go.bits .or .u64 (ji12) (ji15)) * 4294967296)) + ((ji17) / 4294967296))) - (IntKind.u64.wrap (x15_18 * ji10)))) ((ji10) / 4294967296))) * ((ji10) / 4294967296))))), (IntKind.u64.wrap (Int.tdiv (IntKind.u64.wrap ((IntKind.u64.wrap ((IntKind.u64.wrap ((Go.bits .or .u64 (ji12) (ji15)) * 4294967296)) + ((ji17) / 4294967296))) - (IntKind.u64.wrap (x15_18 * ji10)))) ((ji10) / 4294967296))), (by first | rfl | (simp; done) | (simp only [← hji10, ← hji12, ← hji15, ← hji17] <;> (first | rfl | simp)) | (simp [*]; done)), (by first | rfl | (simp; done) | (simp only [← hji10, ← hji12, ← hji15, ← hji17] <;> (first | rfl | simp)) | (simp [*]; done)), H', ⟨Nat.le_refl _⟩, by repeat (first | exact Drawn0.refl _ | apply Drawn0.step)⟩
          case round =>
           clear H'
           try clear c1
           try clear c2
           try clear p2
           try clear c4
           try clear c4b0
           try clear c4b1
           try clear c5
           try clear c5b0
           try clear c6
           try clear c6b0
           try clear c6b1
           try clear c9
           try clear c9b0
           try clear c9b1
           try clear c11
           try clear c11b0
           try clear c14
           try clear c14b0
           try clear c14b1
           try clear c16
           try clear c16b0
           try clear c18
           try clear c18b0
           try clear c18b1
           try clear c19
           try clear c21
           try clear c21b0
           try clear c22
           try clear c23
           try clear c23b0
           try clear c24
           try clear c24b0
           try clear c24b1
           try clear p2
           obtain ⟨x16_2, x18_2, rfl, rfl, HA, HK2, ⟨m2, rfl⟩⟩ := hrel
           cases gk with
           | zero => exact absurd HA.out (by simp [bits_Div64.l1])
           | succ k2 =>
            have H := HA.out
            clear HA
            simp only [bits_Div64.l1] at H
            have HC25 := Aside0.mk H
            clear H
            go_upto_region 24 with (fail)
            repeat (go_quiet (fail); go_upto_region 24 with (fail))
            go_cut [113] (fun v113 wc => ∃ (kq : Nat) (x113_24 : Bool), v113 = .bool x113_24 ∧ Aside0 (bits_Div64.j4 kq ji10 ji8 ((ji10) / 4294967296) (Go.bits .and .u64 (ji10) 4294967295) (Go.bits .and .u64 (ji17) 4294967295) x15_18 x16_2 (IntKind.u64.wrap ((IntKind.u64.wrap ((IntKind.u64.wrap ((Go.bits .or .u64 (ji12) (ji15)) * 4294967296)) + ((ji17) / 4294967296))) - (IntKind.u64.wrap (x15_18 * ji10)))) x18_2 x113_24 = some (r1, r2)) ∧ Aside0 (kq ≤ k2) ∧ Drawn0 w wc)
            case first =>
             have H := HC25.out
             clear HC25
             by_cases c26 : x18_2 ≥ 4294967296
             ·rw [if_pos c26] at H
              have c26b0 : decide (4294967296 ≤ x18_2) = true := decide_eq_true c26
              clear c26
              (first | rw [c26b0] | (simp only [i64_w, i32_w]; rw [c26b0]) | skip)
              have H' := Aside0.mk H
              clear H
              go_wp2
              repeat (go_quiet (fail); try go_wp2)
              go_meet
              case rel => exact ⟨_, (true), (by first | rfl | (simp; done) | (simp [*]; done)), H', ⟨by have := HJ18.out; have := HK2.out; first | omega | exact Nat.le_refl _⟩, by repeat (first | exact Drawn0.refl _ | apply Drawn0.step)⟩
             ·rw [if_neg c26] at H
              have c26b0 : decide (4294967296 ≤ x18_2) = false := decide_eq_false c26
              clear c26
              (first | rw [c26b0] | (simp only [i64_w, i32_w]; rw [c26b0]) | skip)
              have H' := Aside0.mk H
              clear H
              go_wp2
              repeat (go_quiet (fail); try go_wp2)
              go_meet
              case rel => exact ⟨_, (decide ((IntKind.u64.wrap (x18_2 * (Go.bits .and .u64 (ji10) 4294967295))) > (IntKind.u64.wrap ((IntKind.u64.wrap (4294967296 * x16_2)) + (Go.bits .and .u64 (ji17) 4294967295))))), (by first | rfl | (simp; done) | (simp only [← hji10, ← hji17] <;> (first | rfl | simp)) | (simp [*]; done)), H', ⟨by have := HJ18.out; have := HK2.out; first | omega | exact Nat.le_refl _⟩, by repeat (first | exact Drawn0.refl _ | apply Drawn0.step)⟩
            case rest =>
             clear HC25
             try clear c1
             try clear c2
             try clear p2
             try clear c4
             try clear c4b0
             try clear c4b1
             try clear c5
             try clear c5b0
             try clear c6
             try clear c6b0
             try clear c6b1
             try clear c9
             try clear c9b0
             try clear c9b1
             try clear c11
             try clear c11b0
             try clear c14
             try clear c14b0
             try clear c14b1
             try clear c16
             try clear c16b0
             try clear c18
             try clear c18b0
             try clear c18b1
             try clear c19
             try clear c21
             try clear c21b0
             try clear c22
             try clear c23
             try clear c23b0
             try clear c24
             try clear c24b0
             try clear c24b1
             try clear c26
             try clear c26b0
             try clear p2
             obtain ⟨kq, x113_24, rfl, HA, HJ24, ⟨mc24, rfl⟩⟩ := hcut
             cases kq with
             | zero => exact absurd HA.out (by simp [bits_Div64.j4])
             | succ kj24 =>
              have H := HA.out
              clear HA
              simp only [bits_Div64.j4] at H
              by_cases c27 : x113_24 = true
              ·subst c27
               have H1 : (if (IntKind.u64.wrap (x16_2 + ((ji10) / 4294967296))) ≥ 4294967296 then (if 0 ≤ ji8 then (some (IntKind.u64.wrap ((IntKind.u64.wrap (x15_18 * 4294967296)) + (IntKind.u64.wrap (x18_2 - 1))), shr .u64 (IntKind.u64.wrap ((IntKind.u64.wrap ((IntKind.u64.wrap ((IntKind.u64.wrap ((IntKind.u64.wrap ((IntKind.u64.wrap ((Go.bits .or .u64 (ji12) (ji15)) * 4294967296)) + ((ji17) / 4294967296))) - (IntKind.u64.wrap (x15_18 * ji10)))) * 4294967296)) + (Go.bits .and .u64 (ji17) 4294967295))) - (IntKind.u64.wrap ((IntKind.u64.wrap (x18_2 - 1)) * ji10)))) ji8)) else (none)) else (bits_Div64.l1 kj24 ji10 ji8 ((ji10) / 4294967296) (Go.bits .and .u64 (ji10) 4294967295) (Go.bits .and .u64 (ji17) 4294967295) x15_18 (IntKind.u64.wrap (x16_2 + ((ji10) / 4294967296))) (IntKind.u64.wrap ((IntKind.u64.wrap ((IntKind.u64.wrap ((Go.bits .or .u64 (ji12) (ji15)) * 4294967296)) + ((ji17) / 4294967296))) - (IntKind.u64.wrap (x15_18 * ji10)))) (IntKind.u64.wrap (x18_2 - 1)))) = some (r1, r2) := by rw [if_pos rfl] at H; exact H
               clear H
               have H := H1
               clear H1
               by_cases c28 : (IntKind.u64.wrap (x16_2 + ((ji10) / 4294967296))) ≥ 4294967296
               ·rw [if_pos c28] at H
                have c28b0 : decide (4294967296 ≤ (IntKind.u64.wrap (x16_2 + ((ji10) / 4294967296)))) = true := decide_eq_true c28
                clear c28
                by_cases c29 : 0 ≤ ji8
                ·rw [if_pos c29] at H
                 have c29b0 := eq_true c29
                 have c29b1 : decide (0 ≤ ji8) = true := decide_eq_true c29
                 clear c29
                 obtain ⟨ji30, hji30⟩ : ∃ j_ : Int, (shr .u64 (IntKind.u64.wrap ((IntKind.u64.wrap ((IntKind.u64.wrap ((IntKind.u64.wrap ((IntKind.u64.wrap ((IntKind.u64.wrap ((Go.bits .or .u64 (ji12) (ji15)) * 4294967296)) + ((ji17) / 4294967296))) - (IntKind.u64.wrap (x15_18 * ji10)))) * 4294967296)) + (Go.bits .and .u64 (ji17) 4294967295))) - (IntKind.u64.wrap ((IntKind.u64.wrap (x18_2 - 1)) * ji10)))) ji8) = j_ := ⟨_, rfl⟩
                 replace H : (some (IntKind.u64.wrap ((IntKind.u64.wrap (x15_18 * 4294967296)) + (IntKind.u64.wrap (x18_2 - 1))), ji30)) = some (r1, r2) := by first | (rw [hji30] at H; exact H) | (simp only [hji30] at H ⊢; exact H)
                 have hji30_ : ((IntKind.u64.wrap ((IntKind.u64.wrap ((IntKind.u64.wrap ((IntKind.u64.wrap ((IntKind.u64.wrap ((IntKind.u64.wrap ((Go.bits .or .u64 (ji12) (ji15)) * 4294967296)) + ((ji17) / 4294967296))) - (IntKind.u64.wrap (x15_18 * ji10)))) * 4294967296)) + (Go.bits .and .u64 (ji17) 4294967295))) - (IntKind.u64.wrap ((IntKind.u64.wrap (x18_2 - 1)) * ji10)))) / 2 ^ min ji8.toNat 64) = ji30 := hji30
                 have hji30z : ji8 ≤ 64 → ((IntKind.u64.wrap ((IntKind.u64.wrap ((IntKind.u64.wrap ((IntKind.u64.wrap ((IntKind.u64.wrap ((IntKind.u64.wrap ((Go.bits .or .u64 (ji12) (ji15)) * 4294967296)) + ((ji17) / 4294967296))) - (IntKind.u64.wrap (x15_18 * ji10)))) * 4294967296)) + (Go.bits .and .u64 (ji17) 4294967295))) - (IntKind.u64.wrap ((IntKind.u64.wrap (x18_2 - 1)) * ji10)))) / 2 ^ ji8.toNat) = ji30 := shr_small hji30
                 simp only [Option.some.injEq, Prod.mk.injEq] at H
                 obtain ⟨rfl, rfl⟩ := H
                 go_wp2
                 repeat (go_quiet (fail); try go_wp2)
                 go_ret2
                 exact ⟨by first | rfl | (simp; done) | (simp only [← hji8, ← hji10, ← hji12, ← hji13, ← hji15, ← hji17, ← hji30] <;> (first | rfl | simp)) | (simp [*]; done), by repeat (first | exact Drawn0.refl _ | apply Drawn0.step)⟩
                ·rw [if_neg c29] at H
                 exact absurd H (by simp)
               ·rw [if_neg c28] at H
                have c28b0 : decide (4294967296 ≤ (IntKind.u64.wrap (x16_2 + ((ji10) / 4294967296)))) = false := decide_eq_false c28
                clear c28
                have H' := Aside0.mk H
                clear H
                go_wp2
                repeat (go_quiet (fail); try go_wp2)
                go_roundg kj24
                case measure => have := HJ18.out; have := HK2.out; have := HJ24.out; omega
                case rel => exact ⟨(IntKind.u64.wrap (x16_2 + ((ji10) / 4294967296))), (IntKind.u64.wrap (x18_2 - 1)), (by first | rfl | (simp; done) | (simp only [← hji10] <;> (first | rfl | simp)) | (simp [*]; done)), (by first | rfl | (simp; done) | (simp [*]; done)), H', ⟨by have := HJ18.out; have := HK2.out; have := HJ24.out; omega⟩, by repeat (first | exact Drawn0.refl _ | apply Drawn0.step)⟩
              ·replace c27 := Bool.eq_false_iff.mpr c27
               subst c27
               have H1 : (if 0 ≤ ji8 then (some (IntKind.u64.wrap ((IntKind.u64.wrap (x15_18 * 4294967296)) + x18_2), shr .u64 (IntKind.u64.wrap ((IntKind.u64.wrap ((IntKind.u64.wrap ((IntKind.u64.wrap ((IntKind.u64.wrap ((IntKind.u64.wrap ((Go.bits .or .u64 (ji12) (ji15)) * 4294967296)) + ((ji17) / 4294967296))) - (IntKind.u64.wrap (x15_18 * ji10)))) * 4294967296)) + (Go.bits .and .u64 (ji17) 4294967295))) - (IntKind.u64.wrap (x18_2 * ji10)))) ji8)) else (none)) = some (r1, r2) := by rw [if_neg (show ¬ (false = true) by decide)] at H; exact H
               clear H
               have H := H1
               clear H1
               by_cases c31 : 0 ≤ ji8
               ·rw [if_pos c31] at H
                have c31b0 := eq_true c31
                have c31b1 : decide (0 ≤ ji8) = true := decide_eq_true c31
                clear c31
                obtain ⟨ji32, hji32⟩ : ∃ j_ : Int, (shr .u64 (IntKind.u64.wrap ((IntKind.u64.wrap ((IntKind.u64.wrap ((IntKind.u64.wrap ((IntKind.u64.wrap ((IntKind.u64.wrap ((Go.bits .or .u64 (ji12) (ji15)) * 4294967296)) + ((ji17) / 4294967296))) - (IntKind.u64.wrap (x15_18 * ji10)))) * 4294967296)) + (Go.bits .and .u64 (ji17) 4294967295))) - (IntKind.u64.wrap (x18_2 * ji10)))) ji8) = j_ := ⟨_, rfl⟩
                replace H : (some (IntKind.u64.wrap ((IntKind.u64.wrap (x15_18 * 4294967296)) + x18_2), ji32)) = some (r1, r2) := by first | (rw [hji32] at H; exact H) | (simp only [hji32] at H ⊢; exact H)
                have hji32_ : ((IntKind.u64.wrap ((IntKind.u64.wrap ((IntKind.u64.wrap ((IntKind.u64.wrap ((IntKind.u64.wrap ((IntKind.u64.wrap ((Go.bits .or .u64 (ji12) (ji15)) * 4294967296)) + ((ji17) / 4294967296))) - (IntKind.u64.wrap (x15_18 * ji10)))) * 4294967296)) + (Go.bits .and .u64 (ji17) 4294967295))) - (IntKind.u64.wrap (x18_2 * ji10)))) / 2 ^ min ji8.toNat 64) = ji32 := hji32
                have hji32z : ji8 ≤ 64 → ((IntKind.u64.wrap ((IntKind.u64.wrap ((IntKind.u64.wrap ((IntKind.u64.wrap ((IntKind.u64.wrap ((IntKind.u64.wrap ((Go.bits .or .u64 (ji12) (ji15)) * 4294967296)) + ((ji17) / 4294967296))) - (IntKind.u64.wrap (x15_18 * ji10)))) * 4294967296)) + (Go.bits .and .u64 (ji17) 4294967295))) - (IntKind.u64.wrap (x18_2 * ji10)))) / 2 ^ ji8.toNat) = ji32 := shr_small hji32
                simp only [Option.some.injEq, Prod.mk.injEq] at H
                obtain ⟨rfl, rfl⟩ := H
                go_wp2
                repeat (go_quiet (fail); try go_wp2)
                go_ret2
                exact ⟨by first | rfl | (simp; done) | (simp only [← hji8, ← hji10, ← hji12, ← hji13, ← hji15, ← hji17, ← hji32] <;> (first | rfl | simp)) | (simp [*]; done), by repeat (first | exact Drawn0.refl _ | apply Drawn0.step)⟩
               ·rw [if_neg c31] at H
                exact absurd H (by simp)
     ·rw [if_neg c14] at H
      exact absurd H (by simp)
    ·rw [if_neg c9] at H
     exact absurd H (by simp)
end Go.Proofs.YtphgeljglhjamaaDoor.P
end

section
namespace Go.Proofs.YtphgeljglhjamaaDoor.P
open Go.RowKit Go.Proofs.YtphgeljglhjamaaDoorW.PrintWords Go.Proofs.YtphgeljglhjamaaDoorW.PrintLast Go.Proofs.YtphgeljglhjamaaDoorW.PrintMore
attribute [local go_sem] max2_int min2_int max_two min_two max_three min_three max_four min_four   -- for this text's walks alone
set_option linter.unusedVariables false
set_option linter.unusedSimpArgs false
theorem div64_l1 (y s yn1 yn0 un q1 u : Int) (hs : 0 ≤ s) (d : Nat) : ∀ r q, DvInv y yn1 yn0 u un r q → (4294967296 - r).toNat < d →
  ∃ k, bits_Div64.l1 k y s yn1 yn0 un q1 r u q = some (IntKind.u64.wrap ((IntKind.u64.wrap (q1 * 4294967296)) + (u * 4294967296 + un) / y), shr .u64 (u * 4294967296 + un - (u * 4294967296 + un) / y * y) s) := by
 induction d with
 | zero => intro r q h hd; omega
 | succ d ih =>
  intro r q h hd
  obtain ⟨t1, t2, q0⟩ := h.test
  have R := h.rest
  have y64 := h.y64
  have Q0 := h.Q0; have QB := h.QB
  have r0 := h.r0; have r1 := h.r1; have n1 := h.n1; have n1' := h.n1'
  by_cases ht : 4294967296 ≤ q ∨ r * 4294967296 + un < q * yn0
  ·have l := h.less ht
   have hq := h.q1
   have eq1 : IntKind.u64.wrap (q - 1) = q - 1 := u64_id _ (by omega) (by omega)
   have er : IntKind.u64.wrap (r + yn1) = r + yn1 := u64_id _ (by omega) (by omega)
   have step : ∀ k, bits_Div64.l1 (k + 2) y s yn1 yn0 un q1 r u q = bits_Div64.j4 (k + 1) y s yn1 yn0 un q1 r u q true := by
    intro k
    conv => lhs; unfold bits_Div64.l1
    by_cases hb : 4294967296 ≤ q
    ·rw [if_pos hb]
    ·rw [if_neg hb, t1, t2, decide_eq_true (show q * yn0 > r * 4294967296 + un by omega)]
   by_cases hr : r + yn1 < 4294967296
   ·obtain ⟨k, hk⟩ := ih (r + yn1) (q - 1) (h.next ht hr) (by omega)
    refine ⟨k + 2, ?_⟩
    rw [step k]
    conv => lhs; unfold bits_Div64.j4
    rw [if_pos rfl, er, if_neg (by omega), eq1]
    exact hk
   ·refine ⟨2, ?_⟩
    have st := h.stop ht (by omega)
    rw [step 0]
    conv => lhs; unfold bits_Div64.j4
    rw [if_pos rfl, er, if_pos (by omega), if_pos hs, eq1, dv_rest u un (q - 1) y _ (by rw [st]) R.1 (by omega), st]
  ·have f := h.found (by omega)
   refine ⟨2, ?_⟩
   conv => lhs; unfold bits_Div64.l1
   rw [if_neg (by omega), t1, t2, decide_eq_false (by omega)]
   conv => lhs; unfold bits_Div64.j4
   rw [if_neg (by simp), if_pos hs, dv_rest u un q y _ (by rw [f]) R.1 (by omega), f]
theorem div64_l0 (y s yn1 yn0 un1 un0 u : Int) (hs : 0 ≤ s) (hu0 : 0 ≤ un0) (hu1 : un0 < 4294967296) (d : Nat) : ∀ r q, DvInv y yn1 yn0 u un1 r q → (4294967296 - r).toNat < d →
  ∃ k, bits_Div64.l0 k y s yn1 yn0 u un1 un0 q r = some (IntKind.u64.wrap ((IntKind.u64.wrap ((u * 4294967296 + un1) / y * 4294967296)) + ((u * 4294967296 + un1 - (u * 4294967296 + un1) / y * y) * 4294967296 + un0) / y), shr .u64 ((u * 4294967296 + un1 - (u * 4294967296 + un1) / y * y) * 4294967296 + un0 - ((u * 4294967296 + un1 - (u * 4294967296 + un1) / y * y) * 4294967296 + un0) / y * y) s) := by
 have two : ∀ r q, DvInv y yn1 yn0 u un1 r q → ∀ q', q' = (u * 4294967296 + un1) / y → ∃ k, bits_Div64.j2 k y s yn1 yn0 u un1 un0 q' = some (IntKind.u64.wrap ((IntKind.u64.wrap ((u * 4294967296 + un1) / y * 4294967296)) + ((u * 4294967296 + un1 - (u * 4294967296 + un1) / y * y) * 4294967296 + un0) / y), shr .u64 ((u * 4294967296 + un1 - (u * 4294967296 + un1) / y * y) * 4294967296 + un0 - ((u * 4294967296 + un1 - (u * 4294967296 + un1) / y * y) * 4294967296 + un0) / y * y) s) := by
  intro r q h q' hq'
  have R := h.rest
  have y64 := h.y64
  have e := dv_rest u un1 q' y _ (by rw [hq']) R.1 (by omega)
  generalize hv : u * 4294967296 + un1 - (u * 4294967296 + un1) / y * y = v at *
  have i := DvInv.start h.hy h.n1 h.n1' h.n0 h.n0' hu0 hu1 R.1 R.2
  obtain ⟨k, hk⟩ := div64_l1 y s yn1 yn0 un0 q' v hs _ _ _ i (Nat.lt_succ_self _)
  refine ⟨k + 1, ?_⟩
  simp only [bits_Div64.j2]
  have n1 := h.n1
  have td : IntKind.u64.wrap (Int.tdiv v yn1) = v / yn1 := by
   rw [Int.tdiv_eq_ediv_of_nonneg R.1]
   exact u64_id _ (Int.ediv_nonneg R.1 (by omega)) (Int.lt_of_le_of_lt (Int.ediv_le_self _ R.1) (by omega))
  have m0 := Int.ediv_nonneg R.1 (show 0 ≤ yn1 by omega)
  have m1 := Int.ediv_mul_le v (show yn1 ≠ 0 by omega)
  have m2 := Int.mul_nonneg m0 (show 0 ≤ yn1 by omega)
  rw [if_neg (by omega), e, td, u64_id (v / yn1 * yn1) m2 (by omega), u64_id (v - v / yn1 * yn1) (by omega) (by omega), hk, hq']
 induction d with
 | zero => intro r q h hd; omega
 | succ d ih =>
  intro r q h hd
  obtain ⟨t1, t2, q0⟩ := h.test
  have r0 := h.r0; have r1 := h.r1; have n1 := h.n1; have n1' := h.n1'
  by_cases ht : 4294967296 ≤ q ∨ r * 4294967296 + un1 < q * yn0
  ·have l := h.less ht
   have hq := h.q1
   have Q0 := h.Q0
   have eq1 : IntKind.u64.wrap (q - 1) = q - 1 := u64_id _ (by omega) (by omega)
   have er : IntKind.u64.wrap (r + yn1) = r + yn1 := u64_id _ (by omega) (by omega)
   have step : ∀ k, bits_Div64.l0 (k + 2) y s yn1 yn0 u un1 un0 q r = bits_Div64.j1 (k + 1) y s yn1 yn0 u un1 un0 q r true := by
    intro k
    conv => lhs; unfold bits_Div64.l0
    by_cases hb : 4294967296 ≤ q
    ·rw [if_pos hb]
    ·rw [if_neg hb, t1, t2, decide_eq_true (show q * yn0 > r * 4294967296 + un1 by omega)]
   by_cases hr : r + yn1 < 4294967296
   ·obtain ⟨k, hk⟩ := ih (r + yn1) (q - 1) (h.next ht hr) (by omega)
    refine ⟨k + 2, ?_⟩
    rw [step k]
    conv => lhs; unfold bits_Div64.j1
    rw [if_pos rfl, er, if_neg (by omega), eq1]
    exact hk
   ·obtain ⟨k, hk⟩ := two r q h (q - 1) (h.stop ht (by omega))
    refine ⟨k + 2, ?_⟩
    rw [step k]
    conv => lhs; unfold bits_Div64.j1
    rw [if_pos rfl, er, if_pos (by omega), eq1]
    exact hk
  ·obtain ⟨k, hk⟩ := two r q h q (h.found (by omega))
   refine ⟨k + 2, ?_⟩
   conv => lhs; unfold bits_Div64.l0
   rw [if_neg (by omega), t1, t2, decide_eq_false (by omega)]
   conv => lhs; unfold bits_Div64.j1
   rw [if_neg (by simp)]
   exact hk
theorem div64_spec (hi lo y : Int) (h0 : 0 ≤ hi) (hy : hi < y) (hy1 : y < 18446744073709551616) (l0 : 0 ≤ lo) (l1 : lo < 18446744073709551616) :
  ∃ k, bits_Div64.f k hi lo y = some ((hi * 18446744073709551616 + lo) / y, (hi * 18446744073709551616 + lo) % y) := by
 by_cases hz : hi = 0
 ·subst hz
  refine ⟨0, ?_⟩
  unfold bits_Div64.f
  rw [if_neg (by omega), if_neg (by omega), if_pos rfl, Int.tdiv_eq_ediv_of_nonneg l0, Int.tmod_eq_emod_of_nonneg l0, Int.zero_mul, Int.zero_add]
  rw [u64_id _ (Int.ediv_nonneg l0 (by omega)) (Int.lt_of_le_of_lt (Int.ediv_le_self _ l0) l1)]
 obtain ⟨j, eL, b1, b2, b3⟩ := bitLen_span y.toNat (by omega) (by omega)
 obtain ⟨P, hP⟩ : ∃ P : Int, P = ((2 ^ (63 - j) : Nat) : Int) := ⟨_, rfl⟩
 obtain ⟨R, hR⟩ : ∃ R : Int, R = ((2 ^ (j + 1) : Nat) : Int) := ⟨_, rfl⟩
 obtain ⟨J, hJ⟩ : ∃ J : Int, J = ((2 ^ j : Nat) : Int) := ⟨_, rfl⟩
 have P0 : 0 < P := by rw [hP]; exact Int.natCast_pos.mpr (Nat.two_pow_pos _)
 have R0 : 0 < R := by rw [hR]; exact Int.natCast_pos.mpr (Nat.two_pow_pos _)
 have PR : P * R = 18446744073709551616 := by
  rw [hP, hR, ← Int.natCast_mul, ← Nat.pow_add, show 63 - j + (j + 1) = 64 by omega]; rfl
 have PJ : J * P = 9223372036854775808 := by
  rw [hP, hJ, ← Int.natCast_mul, ← Nat.pow_add, show j + (63 - j) = 63 by omega]; rfl
 have yR : y < R := by rw [hR]; omega
 have Jy : J ≤ y := by rw [hJ]; omega
 have hs : (wrap64 (64 - ((j + 1 : Nat) : Int))) = ((63 - j : Nat) : Int) := by unfold wrap64; omega
 have hs2 : IntKind.u64.wrap ((63 - j : Nat) : Int) = ((63 - j : Nat) : Int) := u64_id _ (by omega) (by omega)
 have hs3 : IntKind.u64.wrap (64 - ((63 - j : Nat) : Int)) = ((j + 1 : Nat) : Int) := by rw [u64_id _ (by omega) (by omega)]; omega
 have eshl : ∀ x : Int, shl .u64 x ((63 - j : Nat) : Int) = x * P % 18446744073709551616 := by
  intro x
  unfold shl
  rw [u64_mod, hP, Int.toNat_natCast, Nat.min_eq_left (by show 63 - j ≤ 64; omega), Int.natCast_pow]; rfl
 have eshr : ∀ x : Int, shr .u64 x ((j + 1 : Nat) : Int) = x / R := by
  intro x
  unfold shr
  rw [hR, Int.toNat_natCast, Nat.min_eq_left (by show j + 1 ≤ 64; omega), Int.natCast_pow]; rfl
 have eshr2 : ∀ x : Int, shr .u64 x ((63 - j : Nat) : Int) = x / P := by
  intro x
  unfold shr
  rw [hP, Int.toNat_natCast, Nat.min_eq_left (by show 63 - j ≤ 64; omega), Int.natCast_pow]; rfl
 have Y1 : y * P < 18446744073709551616 := by rw [← PR, Int.mul_comm P R]; exact Int.mul_lt_mul_of_pos_right yR P0
 have Y0 : 9223372036854775808 ≤ y * P := by rw [← PJ]; exact Int.mul_le_mul_of_nonneg_right Jy (by omega)
 have hP1 : hi * P < y * P := Int.mul_lt_mul_of_pos_right hy P0
 have hP0 : 0 ≤ hi * P := Int.mul_nonneg h0 (by omega)
 obtain ⟨lp, lR0, lR1⟩ := shift_parts lo P R P0 R0 PR l0 l1
 have hyP : (hi + 1) * P ≤ y * P := Int.mul_le_mul_of_nonneg_right (by omega) (by omega)
 rw [Int.add_mul, Int.one_mul] at hyP
 have eor : Go.bits .or .u64 (hi * P) (lo / R) = hi * P + lo / R := or_add_u64 hi P (lo / R) (63 - j) hP h0 lR0 lR1 (by omega)
 have nP : (hi * 18446744073709551616 + lo) * P = (hi * P + lo / R) * 18446744073709551616 + lo * P % 18446744073709551616 := by
  rw [Int.add_mul, Int.mul_assoc, Int.mul_comm 18446744073709551616 P, ← Int.mul_assoc]
  omega
 have t0 := Int.emod_nonneg (lo * P) (show (18446744073709551616 : Int) ≠ 0 by omega)
 have t1 := Int.emod_lt_of_pos (lo * P) (show (0 : Int) < 18446744073709551616 by omega)
 have elz : bits_LeadingZeros64.f y = some ((63 - j : Nat) : Int) := by
  unfold bits_LeadingZeros64.f bits_Len64.f
  rw [if_pos ⟨by omega, by omega⟩, Option.bind_some, eL, hs]
 have qn := Int.mul_ediv_mul_of_pos_left (hi * 18446744073709551616 + lo) y P0
 have rn : (hi * 18446744073709551616 + lo) * P % (y * P) = (hi * 18446744073709551616 + lo) % y * P := by rw [Int.mul_comm _ P, Int.mul_comm y P, Int.mul_emod_mul_of_pos _ _ P0, Int.mul_comm]
 have y0 : 0 < y := by omega
 generalize hT : lo * P % 18446744073709551616 = T at *
 generalize hU : hi * P + lo / R = U at *
 have hA : (hi * P) % 18446744073709551616 = hi * P := Int.emod_eq_of_lt hP0 (by omega)
 have hB : (y * P) % 18446744073709551616 = y * P := Int.emod_eq_of_lt (by omega) Y1
 generalize hYY : y * P = Y at *
 have i := DvInv.start (y := Y) (yn1 := Y / 4294967296) (yn0 := Y % 4294967296) (u := U) (un := T / 4294967296) (by omega) (by omega) (by omega) (by omega) (by omega) (by omega) (by omega) (by omega) (by omega)
 obtain ⟨k, hk⟩ := div64_l0 Y ((63 - j : Nat) : Int) (Y / 4294967296) (Y % 4294967296) (T / 4294967296) (T % 4294967296) U (by omega) (by omega) (by omega) _ _ _ i (Nat.lt_succ_self _)
 refine ⟨k, ?_⟩
 unfold bits_Div64.f
 have yn := i.n1
 have td : IntKind.u64.wrap (Int.tdiv U (Y / 4294967296)) = U / (Y / 4294967296) := by
  rw [Int.tdiv_eq_ediv_of_nonneg i.u0]
  exact u64_id _ (Int.ediv_nonneg i.u0 (by omega)) (Int.lt_of_le_of_lt (Int.ediv_le_self _ i.u0) (by omega))
 have m0 := Int.ediv_nonneg i.u0 (show 0 ≤ Y / 4294967296 by omega)
 have m1 := Int.ediv_mul_le U (show Y / 4294967296 ≠ 0 by omega)
 have m2 := Int.mul_nonneg m0 (show 0 ≤ Y / 4294967296 by omega)
 have aY : Go.bits .and .u64 Y 4294967295 = Y % 4294967296 := and_low32 Y (by omega) (by omega)
 have aT : Go.bits .and .u64 T 4294967295 = T % 4294967296 := and_low32 T (by omega) (by omega)
 rw [if_neg (by omega), if_neg (by omega), if_neg hz, elz, Option.bind_some, hs2, if_pos (by omega), hs3, if_pos (by omega), eshl y, hYY, hB, if_neg (by omega), eshl hi, hA, eshr lo, eor, eshl lo, hT, aY, aT, td,
  u64_id (U / (Y / 4294967296) * (Y / 4294967296)) m2 (by omega), u64_id (U - U / (Y / 4294967296) * (Y / 4294967296)) (by omega) (by omega), hk]
 have R1 := i.rest
 have QB := i.QB
 have Q0 := i.Q0
 generalize hQ : (U * 4294967296 + T / 4294967296) / Y = Q1 at *
 generalize hV : U * 4294967296 + T / 4294967296 - Q1 * Y = V at *
 have V0 : 0 ≤ (V * 4294967296 + T % 4294967296) / Y := Int.ediv_nonneg (by omega) (by omega)
 have V1 : (V * 4294967296 + T % 4294967296) / Y < 4294967296 := dv_lt _ _ _ (by omega) (by omega)
 have me := Int.emod_add_mul_ediv (V * 4294967296 + T % 4294967296) Y
 have me0 := Int.emod_nonneg (V * 4294967296 + T % 4294967296) (show Y ≠ 0 by omega)
 have me1 := Int.emod_lt_of_pos (V * 4294967296 + T % 4294967296) (show 0 < Y by omega)
 rw [Int.mul_comm Y _] at me
 generalize hQ2 : (V * 4294967296 + T % 4294967296) / Y = Q2 at *
 generalize hW : (V * 4294967296 + T % 4294967296) % Y = W at *
 have all : (hi * 18446744073709551616 + lo) * P = (Q1 * 4294967296 + Q2) * Y + W := by
  rw [nP, Int.add_mul, Int.mul_assoc, Int.mul_comm 4294967296 Y, ← Int.mul_assoc]
  omega
 have fq : (hi * 18446744073709551616 + lo) / y = Q1 * 4294967296 + Q2 := by
  rw [← qn, all]
  rw [Int.add_comm, Int.add_mul_ediv_right _ _ (by omega), Int.ediv_eq_zero_of_lt me0 me1, Int.zero_add]
 have fr : (hi * 18446744073709551616 + lo) % y * P = W := by
  rw [← rn, all, Int.add_comm, Int.add_mul_emod_self_right, Int.emod_eq_of_lt me0 me1]
 rw [u64_id (Q1 * 4294967296) (by omega) (by omega), u64_id (Q1 * 4294967296 + Q2) (by omega) (by omega), eshr2, show V * 4294967296 + T % 4294967296 - Q2 * Y = W by omega, fq, ← fr, Int.mul_ediv_cancel _ (by omega)]
def muldiv_divided.f (n0 : Int) (n1 : Int) (c : Int) : Option (Int × Int × Int) :=
 if (0 ≤ n0 ∧ n0 < 18446744073709551616) ∧ (0 ≤ n1 ∧ n1 < 18446744073709551616) ∧ (0 < c ∧ c < 18446744073709551616) then
  some (n0 / c, (n0 % c * 18446744073709551616 + n1) / c, (n0 % c * 18446744073709551616 + n1) % c) else none
set_option maxHeartbeats 4000000 in
set_option maxRecDepth 100000 in
theorem muldiv_divided.walk (n0 n1 c q0 l0 q1 l1 : Int) (k1 k2 : Nat) (w : World) (h0 : bits_Div64.f k1 0 n0 c = some (q0, l0)) (h1 : bits_Div64.f k2 l0 n1 c = some (q1, l1)) :
  Calls Tryd.prog 58 #[.agg #[.int .u64 n0, .int .u64 n1], .int .u64 c] w fun e w' => e = .returned (.tuple #[.agg #[.int .u64 q0, .int .u64 q1], .int .u64 l1]) ∧ Below w.heap.size w w' := by
 have hu62 := Tryd.underlying121
 have A0 := Aside0.mk h0
 have A1 := Aside0.mk h1
 clear h0 h1
 go_enter Tryd.func58, Tryd.ntmps58
 go_wp2
 refine wp_scope_jumps 0 (fun a' w' => ∃ (n : Nat) (u9 u10 u11 u12 u13 u14 u15 u16 u17 u18 u19 u20 u21 u22 u23 u24 u25 : Value), a' = { tmps := #[.agg #[.int .u64 n0, .int .u64 n1], .int .u64 c, .pointer (some ⟨w.heap.size, 0, none⟩), undef, .pointer (some ⟨w.heap.size + 1, 0, none⟩), .int .u64 0, .pointer (some ⟨w.heap.size + 1 + 1, 0, none⟩), .int .u64 l0, .int .i64 1, u9, u10, u11, u12, u13, u14, u15, u16, u17, u18, u19, u20, u21, u22, u23, u24, u25], defers := [] } ∧
   w' = (((((w.alloc (.cells #[.int .u64 n0, .int .u64 n1] 121)).alloc (.cells #[.int .u64 0, .int .u64 0] 121)).alloc (.cells #[.int .u64 0, .int .u64 0] 121)).drewN n).setCell ⟨w.heap.size + 1 + 1, 0, none⟩ (.int .u64 q0))) (fun a' _ => 0) rfl ?_ ?_
 ·go_wp2
  go_step3
  go_wp2_with (go_at_call 60; (with_reducible refine (bits_Div64.calls k1 0 n0 c q0 l0 _ A0.out).mono ?_); rintro e w' ⟨rfl, hd⟩; obtain ⟨n, rfl⟩ := hd.out)
  go_step3
  exact ⟨rfl, n, _, _, _, _, _, _, _, _, _, _, _, _, _, _, _, _, _, rfl, rfl⟩
 ·rintro a' w' ⟨n, u9, u10, u11, u12, u13, u14, u15, u16, u17, u18, u19, u20, u21, u22, u23, u24, u25, rfl, rfl⟩
  go_wp2_with (go_at_call 60; (with_reducible refine (bits_Div64.calls k2 l0 n1 c q1 l1 _ A1.out).mono ?_); rintro e w' ⟨rfl, hd⟩; obtain ⟨n2, rfl⟩ := hd.out)
  simp only [Exit.jump]
  refine bodyPost_ret (v := .tuple #[.agg #[.int .u64 q0, .int .u64 q1], .int .u64 l1]) (by simp [results, Tryd.results58, go_sem]) rfl ⟨rfl, ?_⟩
  repeat (first | refine Below.setCell ?_ (by simp; try omega) _ | apply pw_below_drewN | refine Below.alloc ?_ (by simp; try omega) _ | exact Below.refl _ _)
theorem muldiv_divided.calls (a0_0 : Int) (a0_1 : Int) (a1 : Int) (r1 : Int) (r2 : Int) (r3 : Int) (w : World) (h : muldiv_divided.f a0_0 a0_1 a1 = some (r1, r2, r3)) :
  Calls Tryd.prog 58 #[.agg #[.int .u64 a0_0, .int .u64 a0_1], .int .u64 a1] w fun e w' => e = .returned (.tuple #[.agg #[.int .u64 r1, .int .u64 r2], .int .u64 r3]) ∧ Below w.heap.size w w' := by
 unfold muldiv_divided.f at h
 split at h
 ·rename_i hb
  obtain ⟨⟨a, b⟩, ⟨c, d⟩, p, q⟩ := hb
  obtain ⟨k1, h1⟩ := div64_spec 0 a0_0 a1 (by omega) p q a b
  obtain ⟨k2, h2⟩ := div64_spec (a0_0 % a1) a0_1 a1 (Int.emod_nonneg _ (by omega)) (Int.emod_lt_of_pos _ p) q c d
  rw [Int.zero_mul, Int.zero_add] at h1
  simp only [Option.some.injEq, Prod.mk.injEq] at h
  obtain ⟨rfl, rfl, rfl⟩ := h
  exact muldiv_divided.walk _ _ _ _ _ _ _ k1 k2 w h1 h2
 ·cases h
def muldiv_up.f (a0 : Int) (a1 : Int) (a2 : Bool) (a3 : Int) : Option (Bool) := if a3 = 1 then (if a2 = true then (some (decide (a0 > 0))) else (some false)) else (if a3 = 3 then (if a2 = true then (some false) else (some (decide (a0 > 0)))) else (if a2 = true then (some (decide (a0 > (IntKind.u64.wrap (a1 - a0))))) else (if a0 > 0 then (some (decide (a0 ≥ (IntKind.u64.wrap (a1 - a0))))) else (some false))))
set_option maxHeartbeats 8000000 in
set_option maxRecDepth 100000 in
theorem muldiv_up.calls (a0 : Int) (a1 : Int) (a2 : Bool) (a3 : Int) (r : Bool) (w : World) (h : muldiv_up.f a0 a1 a2 a3 = some r) :
  Calls Tryd.prog 59 #[.int .u64 a0, .int .u64 a1, .bool a2, .int .i64 a3] w fun e w' => e = .returned (.bool r) ∧ Drawn0 w w' := by
 have H : (if a3 = 1 then (if a2 = true then (some (decide (a0 > 0))) else (some false)) else (if a3 = 3 then (if a2 = true then (some false) else (some (decide (a0 > 0)))) else (if a2 = true then (some (decide (a0 > (IntKind.u64.wrap (a1 - a0))))) else (if a0 > 0 then (some (decide (a0 ≥ (IntKind.u64.wrap (a1 - a0))))) else (some false))))) = some r := h
 clear h
 by_cases c5 : a3 = 1
 ·rw [if_pos c5] at H
  have c5b0 : (a3 == 1) = true := beq_iff_eq.mpr c5
  have c5b1 : (a3 != 1) = false := bne_eq_false_iff_eq.mpr c5
  clear c5
  by_cases c6 : a2 = true
  ·subst c6
   have H1 : (some (decide (a0 > 0))) = some r := by rw [if_pos rfl] at H; exact H
   clear H
   have H := H1
   clear H1
   obtain rfl := Option.some.inj H
   go_enter Tryd.func59, Tryd.ntmps59
   go_wp2
   go_ret
   exact ⟨by first | rfl | (simp; done) | (simp [*]; done), by repeat (first | exact Drawn0.refl _ | apply Drawn0.step)⟩
  ·replace c6 := Bool.eq_false_iff.mpr c6
   subst c6
   have H1 : (some false) = some r := by rw [if_neg (show ¬ (false = true) by decide)] at H; exact H
   clear H
   have H := H1
   clear H1
   obtain rfl := Option.some.inj H
   go_enter Tryd.func59, Tryd.ntmps59
   go_wp2
   go_ret
   exact ⟨by first | rfl | (simp; done) | (simp [*]; done), by repeat (first | exact Drawn0.refl _ | apply Drawn0.step)⟩
 ·rw [if_neg c5] at H
  have c5b0 : (a3 == 1) = false := beq_eq_false_iff_ne.mpr c5
  have c5b1 : (a3 != 1) = true := bne_iff_ne.mpr c5
  by_cases c7 : a3 = 3
  ·rw [if_pos c7] at H
   have c7b0 : (a3 == 3) = true := beq_iff_eq.mpr c7
   have c7b1 : (a3 != 3) = false := bne_eq_false_iff_eq.mpr c7
   clear c7
   by_cases c8 : a2 = true
   ·subst c8
    have H1 : (some false) = some r := by rw [if_pos rfl] at H; exact H
    clear H
    have H := H1
    clear H1
    obtain rfl := Option.some.inj H
    go_enter Tryd.func59, Tryd.ntmps59
    go_wp2
    go_ret
    exact ⟨by first | rfl | (simp; done) | (simp [*]; done), by repeat (first | exact Drawn0.refl _ | apply Drawn0.step)⟩
   ·replace c8 := Bool.eq_false_iff.mpr c8
    subst c8
    have H1 : (some (decide (a0 > 0))) = some r := by rw [if_neg (show ¬ (false = true) by decide)] at H; exact H
    clear H
    have H := H1
    clear H1
    obtain rfl := Option.some.inj H
    go_enter Tryd.func59, Tryd.ntmps59
    go_wp2
    go_ret
    exact ⟨by first | rfl | (simp; done) | (simp [*]; done), by repeat (first | exact Drawn0.refl _ | apply Drawn0.step)⟩
  ·rw [if_neg c7] at H
   have c7b0 : (a3 == 3) = false := beq_eq_false_iff_ne.mpr c7
   have c7b1 : (a3 != 3) = true := bne_iff_ne.mpr c7
   by_cases c9 : a2 = true
   ·subst c9
    have H1 : (some (decide (a0 > (IntKind.u64.wrap (a1 - a0))))) = some r := by rw [if_pos rfl] at H; exact H
    clear H
    have H := H1
    clear H1
    obtain rfl := Option.some.inj H
    go_enter Tryd.func59, Tryd.ntmps59
    go_wp2
    go_ret
    exact ⟨by first | rfl | (simp; done) | (simp [*]; done), by repeat (first | exact Drawn0.refl _ | apply Drawn0.step)⟩
   ·replace c9 := Bool.eq_false_iff.mpr c9
    subst c9
    have H1 : (if a0 > 0 then (some (decide (a0 ≥ (IntKind.u64.wrap (a1 - a0))))) else (some false)) = some r := by rw [if_neg (show ¬ (false = true) by decide)] at H; exact H
    clear H
    have H := H1
    clear H1
    by_cases c10 : a0 > 0
    ·rw [if_pos c10] at H
     have c10b0 : decide (0 < a0) = true := decide_eq_true c10
     clear c10
     obtain rfl := Option.some.inj H
     go_enter Tryd.func59, Tryd.ntmps59
     go_wp2
     go_ret
     exact ⟨by first | rfl | (simp; done) | (simp [*]; done), by repeat (first | exact Drawn0.refl _ | apply Drawn0.step)⟩
    ·rw [if_neg c10] at H
     have c10b0 : decide (0 < a0) = false := decide_eq_false c10
     clear c10
     obtain rfl := Option.some.inj H
     go_enter Tryd.func59, Tryd.ntmps59
     go_wp2
     go_ret
     exact ⟨by first | rfl | (simp; done) | (simp [*]; done), by repeat (first | exact Drawn0.refl _ | apply Drawn0.step)⟩
end Go.Proofs.YtphgeljglhjamaaDoor.P
end

section
namespace Go.Proofs.YtphgeljglhjamaaDoor.P
open Go.RowKit Go.Proofs.YtphgeljglhjamaaDoorW.PrintWords Go.Proofs.YtphgeljglhjamaaDoorW.PrintLast Go.Proofs.YtphgeljglhjamaaDoorW.PrintMore
attribute [local go_sem] max2_int min2_int max_two min_two max_three min_three max_four min_four   -- for this text's walks alone
set_option linter.unusedVariables false
set_option linter.unusedSimpArgs false
mutual
def muldiv_quotient.j0 : Nat → Int → Int → Int → Int → Bool → Option (Int × Bool)
 | 0, _, _, _, _, _ => none
 | k + 1, x0, x1, x2, x3, x26 => if x26 = true then (some (0, false)) else ((muldiv_size.f x0).bind fun t135 => ((muldiv_size.f x1).bind fun t136 => ((bits_Mul64.f t135 t136).bind fun bt137 => (if x0 < 0 then (if x1 < 0 then (if x2 < 0 then (muldiv_quotient.j1 k x2 x3 true bt137.1 bt137.2) else (muldiv_quotient.j1 k x2 x3 false bt137.1 bt137.2)) else (if x2 < 0 then (muldiv_quotient.j1 k x2 x3 false bt137.1 bt137.2) else (muldiv_quotient.j1 k x2 x3 true bt137.1 bt137.2))) else (if x1 < 0 then (if x2 < 0 then (muldiv_quotient.j1 k x2 x3 false bt137.1 bt137.2) else (muldiv_quotient.j1 k x2 x3 true bt137.1 bt137.2)) else (if x2 < 0 then (muldiv_quotient.j1 k x2 x3 true bt137.1 bt137.2) else (muldiv_quotient.j1 k x2 x3 false bt137.1 bt137.2)))))))
def muldiv_quotient.j1 : Nat → Int → Int → Bool → Int → Int → Option (Int × Bool)
 | 0, _, _, _, _, _ => none
 | k + 1, x2, x3, x11, x135000, x135001 => (muldiv_size.f x2).bind fun t139 => ((muldiv_divided.f x135000 x135001 t139).bind fun bt140 => ((muldiv_size.f x2).bind fun t144 => ((muldiv_up.f bt140.2.2 t144 x11 x3).bind fun t145 => (if t145 = true then (muldiv_quotient.j2 k x11 (IntKind.u64.wrap (bt140.1 + (add64c bt140.2.1 1 0))) (add64s bt140.2.1 1 0)) else (muldiv_quotient.j2 k x11 bt140.1 bt140.2.1)))))
def muldiv_quotient.j2 : Nat → Bool → Int → Int → Option (Int × Bool)
 | 0, _, _, _ => none
 | k + 1, x11, x144000, x144001 => if x11 = true then (muldiv_quotient.j3 k x11 (9223372036854775807 + 1) x144000 x144001) else (muldiv_quotient.j3 k x11 9223372036854775807 x144000 x144001)
def muldiv_quotient.j3 : Nat → Bool → Int → Int → Int → Option (Int × Bool)
 | 0, _, _, _, _ => none
 | k + 1, x11, x16, x144000, x144001 => if x144000 > 0 then (muldiv_quotient.j4 k x11 true x144000 x144001) else (muldiv_quotient.j4 k x11 (decide (x144001 > x16)) x144000 x144001)
def muldiv_quotient.j4 : Nat → Bool → Bool → Int → Int → Option (Int × Bool)
 | 0, _, _, _, _ => none
 | k + 1, x11, x73, x144000, x144001 => if x73 = true then (if x11 = true then (some ((-9223372036854775808), false)) else (some (9223372036854775807, false))) else (if x11 = true then (some (wrap64 (IntKind.u64.wrap (-x144001)), true)) else (some (wrap64 (x144001), true)))
end
def muldiv_quotient.f (k : Nat) (a0 : Int) (a1 : Int) (a2 : Int) (a3 : Int) : Option (Int × Bool) := if a2 = 0 then (muldiv_quotient.j0 k a0 a1 a2 a3 true) else (if a3 < 1 then (muldiv_quotient.j0 k a0 a1 a2 a3 true) else (muldiv_quotient.j0 k a0 a1 a2 a3 (decide (a3 > 3))))
def muldiv_quotient.T6 : Bool × List (List Nat × List Nat) := (true, [([], []), ([], []), ([1], [1]), ([0, 2, 2], [0, 2]), ([3], [3]), ([4], [4]), ([4], [4]), ([], []), ([7, 5, 3, 0, 1, 2, 3, 4, 5, 7], [5, 7]), ([6, 8, 0, 1, 2, 3, 4, 5, 6, 7, 8], [6])])
def muldiv_quotient.B6 : List Nat := [0, 0, 2, 7, 15, 31, 31, 0, 191, 511]
theorem muldiv_quotient.tab6 : rtab .any (opsOf Tryd.f51 6) = muldiv_quotient.T6 := by kernel_rfl
theorem muldiv_quotient.bits6 : waitsOk muldiv_quotient.T6.2 muldiv_quotient.B6 = true := by kernel_rfl
set_option maxHeartbeats 8000000 in
set_option maxRecDepth 100000 in
theorem muldiv_quotient.calls (k : Nat) (a0 : Int) (a1 : Int) (a2 : Int) (a3 : Int) (r1 : Int) (r2 : Bool) (w : World) (h : muldiv_quotient.f k a0 a1 a2 a3 = some (r1, r2)) :
  Calls Tryd.prog 51 #[.int .i64 a0, .int .i64 a1, .int .i64 a2, .int .i64 a3] w fun e w' => e = .returned (.tuple #[.int .i64 r1, .bool r2]) ∧ Below w.heap.size w w' := by
 have hu121 := Tryd.underlying121
 have hext_add64_0 := @run_add64_0
 have hext_add64_c := @run_add64_c
 have HB := Aside0.mk (Below.refl w.heap.size w)
 have H : (if a2 = 0 then (muldiv_quotient.j0 k a0 a1 a2 a3 true) else (if a3 < 1 then (muldiv_quotient.j0 k a0 a1 a2 a3 true) else (muldiv_quotient.j0 k a0 a1 a2 a3 (decide (a3 > 3))))) = some (r1, r2) := h
 clear h
 have HC5 := Aside0.mk H
 clear H
 go_enter Tryd.func51, Tryd.ntmps51
 go_upto_region 1 with (fail)
 go_cut [26] (fun v26 wc => ∃ (kq : Nat) (x26_4 : Bool), v26 = .bool x26_4 ∧ Aside0 (muldiv_quotient.j0 kq a0 a1 a2 a3 x26_4 = some (r1, r2)) ∧ Aside0 (kq ≤ k) ∧ Aside0 (Below w.heap.size w wc))
 case first =>
  have H := HC5.out
  clear HC5
  by_cases c6 : a2 = 0
  ·rw [if_pos c6] at H
   have c6b0 : (a2 == 0) = true := beq_iff_eq.mpr c6
   have c6b1 : (a2 != 0) = false := bne_eq_false_iff_eq.mpr c6
   clear c6
   (first | rw [c6b0] | (simp only [i64_w, i32_w]; rw [c6b0]) | skip)
   have H' := Aside0.mk H
   clear H
   go_wp2
   go_meet
   case rel => exact ⟨_, (true), (by first | rfl | (simp; done) | (simp [*]; done)), H', ⟨by first | omega | exact Nat.le_refl _⟩, ⟨by repeat (first | (with_reducible first | exact HB.out | apply below_alloc | apply pw_below_drewN | apply below_drew1) | exact HB.out)⟩⟩
  ·rw [if_neg c6] at H
   have c6b0 : (a2 == 0) = false := beq_eq_false_iff_ne.mpr c6
   have c6b1 : (a2 != 0) = true := bne_iff_ne.mpr c6
   (first | rw [c6b0] | (simp only [i64_w, i32_w]; rw [c6b0]) | skip)
   by_cases c7 : a3 < 1
   ·rw [if_pos c7] at H
    have c7b0 : decide (a3 < 1) = true := decide_eq_true c7
    clear c7
    have H' := Aside0.mk H
    clear H
    go_wp2
    go_meet
    case rel => exact ⟨_, (true), (by first | rfl | (simp; done) | (simp [*]; done)), H', ⟨by first | omega | exact Nat.le_refl _⟩, ⟨by repeat (first | (with_reducible first | exact HB.out | apply below_alloc | apply pw_below_drewN | apply below_drew1) | exact HB.out)⟩⟩
   ·rw [if_neg c7] at H
    have c7b0 : decide (a3 < 1) = false := decide_eq_false c7
    clear c7
    have H' := Aside0.mk H
    clear H
    go_wp2
    go_meet
    case rel => exact ⟨_, (decide (a3 > 3)), (by first | rfl | (simp; done) | (simp [*]; done)), H', ⟨by first | omega | exact Nat.le_refl _⟩, ⟨by repeat (first | (with_reducible first | exact HB.out | apply below_alloc | apply pw_below_drewN | apply below_drew1) | exact HB.out)⟩⟩
 case rest =>
  clear HC5
  try clear p2
  try clear c5
  try clear c6
  try clear c6b0
  try clear c6b1
  try clear c7
  try clear c7b0
  obtain ⟨kq, x26_4, rfl, HA, HJ4, HB⟩ := hcut
  cases kq with
  | zero => exact absurd HA.out (by simp [muldiv_quotient.j0])
  | succ kj4 =>
   have H := HA.out
   clear HA
   simp only [muldiv_quotient.j0] at H
   by_cases c8 : x26_4 = true
   ·subst c8
    have H1 : (some (0, false)) = some (r1, r2) := by rw [if_pos rfl] at H; exact H
    clear H
    have H := H1
    clear H1
    simp only [Option.some.injEq, Prod.mk.injEq] at H
    obtain ⟨rfl, rfl⟩ := H
    go_wp2
    go_ret2
    exact ⟨by first | rfl | (simp [errW_none, errW_some] <;> rfl) | (simp [*, errW_none, errW_some] <;> rfl), by repeat (first | (with_reducible first | exact HB.out | apply below_alloc | apply pw_below_drewN | apply below_drew1) | exact HB.out)⟩
   ·replace c8 := Bool.eq_false_iff.mpr c8
    subst c8
    have H1 : ((muldiv_size.f a0).bind fun t135 => ((muldiv_size.f a1).bind fun t136 => ((bits_Mul64.f t135 t136).bind fun bt137 => (if a0 < 0 then (if a1 < 0 then (if a2 < 0 then (muldiv_quotient.j1 kj4 a2 a3 true bt137.1 bt137.2) else (muldiv_quotient.j1 kj4 a2 a3 false bt137.1 bt137.2)) else (if a2 < 0 then (muldiv_quotient.j1 kj4 a2 a3 false bt137.1 bt137.2) else (muldiv_quotient.j1 kj4 a2 a3 true bt137.1 bt137.2))) else (if a1 < 0 then (if a2 < 0 then (muldiv_quotient.j1 kj4 a2 a3 false bt137.1 bt137.2) else (muldiv_quotient.j1 kj4 a2 a3 true bt137.1 bt137.2)) else (if a2 < 0 then (muldiv_quotient.j1 kj4 a2 a3 true bt137.1 bt137.2) else (muldiv_quotient.j1 kj4 a2 a3 false bt137.1 bt137.2))))))) = some (r1, r2) := by rw [if_neg (show ¬ (false = true) by decide)] at H; exact H
    clear H
    have H := H1
    clear H1
    replace H := Option.bind_eq_some_iff.mp H
    obtain ⟨t135, A90, H⟩ := H
    replace H : ((muldiv_size.f a1).bind fun t136 => ((bits_Mul64.f t135 t136).bind fun bt137 => (if a0 < 0 then (if a1 < 0 then (if a2 < 0 then (muldiv_quotient.j1 kj4 a2 a3 true bt137.1 bt137.2) else (muldiv_quotient.j1 kj4 a2 a3 false bt137.1 bt137.2)) else (if a2 < 0 then (muldiv_quotient.j1 kj4 a2 a3 false bt137.1 bt137.2) else (muldiv_quotient.j1 kj4 a2 a3 true bt137.1 bt137.2))) else (if a1 < 0 then (if a2 < 0 then (muldiv_quotient.j1 kj4 a2 a3 false bt137.1 bt137.2) else (muldiv_quotient.j1 kj4 a2 a3 true bt137.1 bt137.2)) else (if a2 < 0 then (muldiv_quotient.j1 kj4 a2 a3 true bt137.1 bt137.2) else (muldiv_quotient.j1 kj4 a2 a3 false bt137.1 bt137.2)))))) = some (r1, r2) := H
    have A9 := Aside0.mk A90
    clear A90
    replace H := Option.bind_eq_some_iff.mp H
    obtain ⟨t136, A100, H⟩ := H
    replace H : ((bits_Mul64.f t135 t136).bind fun bt137 => (if a0 < 0 then (if a1 < 0 then (if a2 < 0 then (muldiv_quotient.j1 kj4 a2 a3 true bt137.1 bt137.2) else (muldiv_quotient.j1 kj4 a2 a3 false bt137.1 bt137.2)) else (if a2 < 0 then (muldiv_quotient.j1 kj4 a2 a3 false bt137.1 bt137.2) else (muldiv_quotient.j1 kj4 a2 a3 true bt137.1 bt137.2))) else (if a1 < 0 then (if a2 < 0 then (muldiv_quotient.j1 kj4 a2 a3 false bt137.1 bt137.2) else (muldiv_quotient.j1 kj4 a2 a3 true bt137.1 bt137.2)) else (if a2 < 0 then (muldiv_quotient.j1 kj4 a2 a3 true bt137.1 bt137.2) else (muldiv_quotient.j1 kj4 a2 a3 false bt137.1 bt137.2))))) = some (r1, r2) := H
    have A10 := Aside0.mk A100
    clear A100
    replace H := Option.bind_eq_some_iff.mp H
    obtain ⟨⟨t137, t138⟩, A110, H⟩ := H
    replace H : (if a0 < 0 then (if a1 < 0 then (if a2 < 0 then (muldiv_quotient.j1 kj4 a2 a3 true t137 t138) else (muldiv_quotient.j1 kj4 a2 a3 false t137 t138)) else (if a2 < 0 then (muldiv_quotient.j1 kj4 a2 a3 false t137 t138) else (muldiv_quotient.j1 kj4 a2 a3 true t137 t138))) else (if a1 < 0 then (if a2 < 0 then (muldiv_quotient.j1 kj4 a2 a3 false t137 t138) else (muldiv_quotient.j1 kj4 a2 a3 true t137 t138)) else (if a2 < 0 then (muldiv_quotient.j1 kj4 a2 a3 true t137 t138) else (muldiv_quotient.j1 kj4 a2 a3 false t137 t138)))) = some (r1, r2) := H
    have A11 := Aside0.mk A110
    clear A110
    have HC12 := Aside0.mk H
    clear H
    go_upto_region 5 with (first | ((with_reducible refine gate_dst (N := 10) rfl ?_); refine box_event ?hg (N := 10) ?hd (cs := #[.int .u64 0, .int .u64 0]) (t := 121) ?hr ?_; (case hd => rfl); (case hg => rfl); (case hr => first | (go_simp; done) | (go_simp; rfl)); intro gb134 hg w13 hbox hb; have n0_ := Aside0.mk (below_step (by repeat (first | (with_reducible first | exact HB.out | apply below_alloc | apply pw_below_drewN | apply below_drew1) | exact HB.out)) hb); have n1_ := Aside0.mk (hbox); have n2_ := Aside0.mk ((by rw [hg]; exact (below_size (by repeat (first | (with_reducible first | exact HB.out | apply below_alloc | apply pw_below_drewN | apply below_drew1) | exact HB.out))) : w.heap.size ≤ gb134)); have n3_ := Aside0.mk ((by rw [hg]; exact (below_size (by repeat (first | (with_reducible first | exact HB.out | apply below_alloc | apply pw_below_drewN | apply below_drew1) | exact HB.out))) : w.heap.size ≤ gb134)); clear HB; have HB := n0_; have BK134 := n1_; have GW134 := n2_; have GE134 := n3_; clear n0_ n1_ n2_ n3_; clear hb hbox hg) | ((with_reducible refine gate_callee (f := 57) rfl ?_); refine goesL_ (some 29) rfl rfl Tryd.func57 (by kernel_rfl) rfl #[.int .i64 a0] rfl (by (try simp only [List.map_toArray, List.map_cons, List.map_nil]); first | done | rfl | (simp only [List.length_drop, List.length_take]; rfl)) ?_; (with_reducible refine (muldiv_size.calls a0 t135 _ A9.out).mono ?_); rintro e w' ⟨rfl, ⟨nd, rfl⟩⟩; refine ⟨_, rfl, ?_⟩; (try (rw [drewN_self w13]; generalize hq_ : World.drewN w13 _ = w13; have n0_ : Aside0 (w13.heap[gb134]? = some (.cells #[.int .u64 0, .int .u64 0] 121 (0, 0))) := ⟨by rw [← hq_]; exact (by (with_reducible repeat (first | refine blk_drewN ?_ _ | refine blk_drew ?_ | refine blk_alloc ?_ _)); exact BK134.out)⟩; have n1_ : Aside0 (Below w.heap.size w w13) := ⟨by rw [← hq_]; exact (by repeat (first | (with_reducible first | exact HB.out | apply below_alloc | apply pw_below_drewN | apply below_drew1 | refine below_set ?_ GE134.out) | exact HB.out))⟩; clear BK134 HB hq_; have BK134 := n0_; have HB := n1_; clear n0_ n1_))) | ((with_reducible refine gate_callee (f := 57) rfl ?_); refine goesL_ (some 31) rfl rfl Tryd.func57 (by kernel_rfl) rfl #[.int .i64 a1] rfl (by (try simp only [List.map_toArray, List.map_cons, List.map_nil]); first | done | rfl | (simp only [List.length_drop, List.length_take]; rfl)) ?_; (with_reducible refine (muldiv_size.calls a1 t136 _ A10.out).mono ?_); rintro e w' ⟨rfl, ⟨nd, rfl⟩⟩; refine ⟨_, rfl, ?_⟩; (try (rw [drewN_self w13]; generalize hq_ : World.drewN w13 _ = w13; have n0_ : Aside0 (w13.heap[gb134]? = some (.cells #[.int .u64 0, .int .u64 0] 121 (0, 0))) := ⟨by rw [← hq_]; exact (by (with_reducible repeat (first | refine blk_drewN ?_ _ | refine blk_drew ?_ | refine blk_alloc ?_ _)); exact BK134.out)⟩; have n1_ : Aside0 (Below w.heap.size w w13) := ⟨by rw [← hq_]; exact (by repeat (first | (with_reducible first | exact HB.out | apply below_alloc | apply pw_below_drewN | apply below_drew1 | refine below_set ?_ GE134.out) | exact HB.out))⟩; clear BK134 HB hq_; have BK134 := n0_; have HB := n1_; clear n0_ n1_))) | ((with_reducible refine gate_callee (f := 47) rfl ?_); refine goesL_ (some 32) rfl rfl Tryd.func47 (by kernel_rfl) rfl #[.int .u64 t135, .int .u64 t136] rfl (by (try simp only [List.map_toArray, List.map_cons, List.map_nil]); first | done | rfl | (simp only [List.length_drop, List.length_take]; rfl)) ?_; (with_reducible refine (bits_Mul64.calls t135 t136 t137 t138 _ A11.out).mono ?_); rintro e w' ⟨rfl, ⟨nd, rfl⟩⟩; refine ⟨_, rfl, ?_⟩; (try (rw [drewN_self w13]; generalize hq_ : World.drewN w13 _ = w13; have n0_ : Aside0 (w13.heap[gb134]? = some (.cells #[.int .u64 0, .int .u64 0] 121 (0, 0))) := ⟨by rw [← hq_]; exact (by (with_reducible repeat (first | refine blk_drewN ?_ _ | refine blk_drew ?_ | refine blk_alloc ?_ _)); exact BK134.out)⟩; have n1_ : Aside0 (Below w.heap.size w w13) := ⟨by rw [← hq_]; exact (by repeat (first | (with_reducible first | exact HB.out | apply below_alloc | apply pw_below_drewN | apply below_drew1 | refine below_set ?_ GE134.out) | exact HB.out))⟩; clear BK134 HB hq_; have BK134 := n0_; have HB := n1_; clear n0_ n1_)); have hcz14_0 : w13.cell? ⟨gb134, 0, none⟩ = some (.int .u64 0) := (blk_cell BK134.out 0).trans rfl; have hcz14_1 : w13.cell? ⟨gb134, 1, none⟩ = some (.int .u64 0) := (blk_cell BK134.out 1).trans rfl; have hfz14_0 := blk_frozen BK134.out 0; have hfz14_1 := blk_frozen BK134.out 1))
    (try simp only [Act.put, List.setIfInBounds_toArray, List.set_cons_zero, List.set_cons_succ])
    go_cut [11] (fun v11 wc => ∃ (kq : Nat) (x11_11 : Bool), v11 = .bool x11_11 ∧ Aside0 (muldiv_quotient.j1 kq a2 a3 x11_11 t137 t138 = some (r1, r2)) ∧ Aside0 (kq ≤ kj4) ∧ Aside0 (wc.heap[gb134]? = some (.cells #[.int .u64 t137, .int .u64 t138] 121 (0, 0))) ∧ Aside0 (Below w.heap.size w wc))
    case first =>
     have H := HC12.out
     clear HC12
     by_cases c15 : a0 < 0
     ·rw [if_pos c15] at H
      have c15b0 : decide (a0 < 0) = true := decide_eq_true c15
      clear c15
      (first | rw [c15b0] | (simp only [i64_w, i32_w]; rw [c15b0]) | skip)
      by_cases c16 : a1 < 0
      ·rw [if_pos c16] at H
       have c16b0 : decide (a1 < 0) = true := decide_eq_true c16
       clear c16
       by_cases c17 : a2 < 0
       ·rw [if_pos c17] at H
        have c17b0 : decide (a2 < 0) = true := decide_eq_true c17
        clear c17
        have H' := Aside0.mk H
        clear H
        go_wp2
        go_meet
        case rel => exact ⟨_, (true), (by first | rfl | (simp; done) | (simp [*]; done)), H', ⟨by have := HJ4.out; first | omega | exact Nat.le_refl _⟩, ⟨by (with_reducible repeat (first | refine blk_drewN ?_ _ | refine blk_drew ?_ | refine blk_alloc ?_ _)); refine blk_put (cs := #[.int .u64 t137, .int .u64 0]) ?_ 1 _ rfl; (with_reducible repeat (first | refine blk_drewN ?_ _ | refine blk_drew ?_ | refine blk_alloc ?_ _)); refine blk_put (cs := #[.int .u64 0, .int .u64 0]) ?_ 0 _ rfl; (with_reducible repeat (first | refine blk_drewN ?_ _ | refine blk_drew ?_ | refine blk_alloc ?_ _)); exact BK134.out⟩, ⟨by repeat (first | (with_reducible first | exact HB.out | apply below_alloc | apply pw_below_drewN | apply below_drew1 | refine below_set ?_ GE134.out) | exact HB.out)⟩⟩
       ·rw [if_neg c17] at H
        have c17b0 : decide (a2 < 0) = false := decide_eq_false c17
        clear c17
        have H' := Aside0.mk H
        clear H
        go_wp2
        go_meet
        case rel => exact ⟨_, (false), (by first | rfl | (simp; done) | (simp [*]; done)), H', ⟨by have := HJ4.out; first | omega | exact Nat.le_refl _⟩, ⟨by (with_reducible repeat (first | refine blk_drewN ?_ _ | refine blk_drew ?_ | refine blk_alloc ?_ _)); refine blk_put (cs := #[.int .u64 t137, .int .u64 0]) ?_ 1 _ rfl; (with_reducible repeat (first | refine blk_drewN ?_ _ | refine blk_drew ?_ | refine blk_alloc ?_ _)); refine blk_put (cs := #[.int .u64 0, .int .u64 0]) ?_ 0 _ rfl; (with_reducible repeat (first | refine blk_drewN ?_ _ | refine blk_drew ?_ | refine blk_alloc ?_ _)); exact BK134.out⟩, ⟨by repeat (first | (with_reducible first | exact HB.out | apply below_alloc | apply pw_below_drewN | apply below_drew1 | refine below_set ?_ GE134.out) | exact HB.out)⟩⟩
      ·rw [if_neg c16] at H
       have c16b0 : decide (a1 < 0) = false := decide_eq_false c16
       clear c16
       by_cases c18 : a2 < 0
       ·rw [if_pos c18] at H
        have c18b0 : decide (a2 < 0) = true := decide_eq_true c18
        clear c18
        have H' := Aside0.mk H
        clear H
        go_wp2
        go_meet
        case rel => exact ⟨_, (false), (by first | rfl | (simp; done) | (simp [*]; done)), H', ⟨by have := HJ4.out; first | omega | exact Nat.le_refl _⟩, ⟨by (with_reducible repeat (first | refine blk_drewN ?_ _ | refine blk_drew ?_ | refine blk_alloc ?_ _)); refine blk_put (cs := #[.int .u64 t137, .int .u64 0]) ?_ 1 _ rfl; (with_reducible repeat (first | refine blk_drewN ?_ _ | refine blk_drew ?_ | refine blk_alloc ?_ _)); refine blk_put (cs := #[.int .u64 0, .int .u64 0]) ?_ 0 _ rfl; (with_reducible repeat (first | refine blk_drewN ?_ _ | refine blk_drew ?_ | refine blk_alloc ?_ _)); exact BK134.out⟩, ⟨by repeat (first | (with_reducible first | exact HB.out | apply below_alloc | apply pw_below_drewN | apply below_drew1 | refine below_set ?_ GE134.out) | exact HB.out)⟩⟩
       ·rw [if_neg c18] at H
        have c18b0 : decide (a2 < 0) = false := decide_eq_false c18
        clear c18
        have H' := Aside0.mk H
        clear H
        go_wp2
        go_meet
        case rel => exact ⟨_, (true), (by first | rfl | (simp; done) | (simp [*]; done)), H', ⟨by have := HJ4.out; first | omega | exact Nat.le_refl _⟩, ⟨by (with_reducible repeat (first | refine blk_drewN ?_ _ | refine blk_drew ?_ | refine blk_alloc ?_ _)); refine blk_put (cs := #[.int .u64 t137, .int .u64 0]) ?_ 1 _ rfl; (with_reducible repeat (first | refine blk_drewN ?_ _ | refine blk_drew ?_ | refine blk_alloc ?_ _)); refine blk_put (cs := #[.int .u64 0, .int .u64 0]) ?_ 0 _ rfl; (with_reducible repeat (first | refine blk_drewN ?_ _ | refine blk_drew ?_ | refine blk_alloc ?_ _)); exact BK134.out⟩, ⟨by repeat (first | (with_reducible first | exact HB.out | apply below_alloc | apply pw_below_drewN | apply below_drew1 | refine below_set ?_ GE134.out) | exact HB.out)⟩⟩
     ·rw [if_neg c15] at H
      have c15b0 : decide (a0 < 0) = false := decide_eq_false c15
      clear c15
      (first | rw [c15b0] | (simp only [i64_w, i32_w]; rw [c15b0]) | skip)
      by_cases c19 : a1 < 0
      ·rw [if_pos c19] at H
       have c19b0 : decide (a1 < 0) = true := decide_eq_true c19
       clear c19
       by_cases c20 : a2 < 0
       ·rw [if_pos c20] at H
        have c20b0 : decide (a2 < 0) = true := decide_eq_true c20
        clear c20
        have H' := Aside0.mk H
        clear H
        go_wp2
        go_meet
        case rel => exact ⟨_, (false), (by first | rfl | (simp; done) | (simp [*]; done)), H', ⟨by have := HJ4.out; first | omega | exact Nat.le_refl _⟩, ⟨by (with_reducible repeat (first | refine blk_drewN ?_ _ | refine blk_drew ?_ | refine blk_alloc ?_ _)); refine blk_put (cs := #[.int .u64 t137, .int .u64 0]) ?_ 1 _ rfl; (with_reducible repeat (first | refine blk_drewN ?_ _ | refine blk_drew ?_ | refine blk_alloc ?_ _)); refine blk_put (cs := #[.int .u64 0, .int .u64 0]) ?_ 0 _ rfl; (with_reducible repeat (first | refine blk_drewN ?_ _ | refine blk_drew ?_ | refine blk_alloc ?_ _)); exact BK134.out⟩, ⟨by repeat (first | (with_reducible first | exact HB.out | apply below_alloc | apply pw_below_drewN | apply below_drew1 | refine below_set ?_ GE134.out) | exact HB.out)⟩⟩
       ·rw [if_neg c20] at H
        have c20b0 : decide (a2 < 0) = false := decide_eq_false c20
        clear c20
        have H' := Aside0.mk H
        clear H
        go_wp2
        go_meet
        case rel => exact ⟨_, (true), (by first | rfl | (simp; done) | (simp [*]; done)), H', ⟨by have := HJ4.out; first | omega | exact Nat.le_refl _⟩, ⟨by (with_reducible repeat (first | refine blk_drewN ?_ _ | refine blk_drew ?_ | refine blk_alloc ?_ _)); refine blk_put (cs := #[.int .u64 t137, .int .u64 0]) ?_ 1 _ rfl; (with_reducible repeat (first | refine blk_drewN ?_ _ | refine blk_drew ?_ | refine blk_alloc ?_ _)); refine blk_put (cs := #[.int .u64 0, .int .u64 0]) ?_ 0 _ rfl; (with_reducible repeat (first | refine blk_drewN ?_ _ | refine blk_drew ?_ | refine blk_alloc ?_ _)); exact BK134.out⟩, ⟨by repeat (first | (with_reducible first | exact HB.out | apply below_alloc | apply pw_below_drewN | apply below_drew1 | refine below_set ?_ GE134.out) | exact HB.out)⟩⟩
      ·rw [if_neg c19] at H
       have c19b0 : decide (a1 < 0) = false := decide_eq_false c19
       clear c19
       by_cases c21 : a2 < 0
       ·rw [if_pos c21] at H
        have c21b0 : decide (a2 < 0) = true := decide_eq_true c21
        clear c21
        have H' := Aside0.mk H
        clear H
        go_wp2
        go_meet
        case rel => exact ⟨_, (true), (by first | rfl | (simp; done) | (simp [*]; done)), H', ⟨by have := HJ4.out; first | omega | exact Nat.le_refl _⟩, ⟨by (with_reducible repeat (first | refine blk_drewN ?_ _ | refine blk_drew ?_ | refine blk_alloc ?_ _)); refine blk_put (cs := #[.int .u64 t137, .int .u64 0]) ?_ 1 _ rfl; (with_reducible repeat (first | refine blk_drewN ?_ _ | refine blk_drew ?_ | refine blk_alloc ?_ _)); refine blk_put (cs := #[.int .u64 0, .int .u64 0]) ?_ 0 _ rfl; (with_reducible repeat (first | refine blk_drewN ?_ _ | refine blk_drew ?_ | refine blk_alloc ?_ _)); exact BK134.out⟩, ⟨by repeat (first | (with_reducible first | exact HB.out | apply below_alloc | apply pw_below_drewN | apply below_drew1 | refine below_set ?_ GE134.out) | exact HB.out)⟩⟩
       ·rw [if_neg c21] at H
        have c21b0 : decide (a2 < 0) = false := decide_eq_false c21
        clear c21
        have H' := Aside0.mk H
        clear H
        go_wp2
        go_meet
        case rel => exact ⟨_, (false), (by first | rfl | (simp; done) | (simp [*]; done)), H', ⟨by have := HJ4.out; first | omega | exact Nat.le_refl _⟩, ⟨by (with_reducible repeat (first | refine blk_drewN ?_ _ | refine blk_drew ?_ | refine blk_alloc ?_ _)); refine blk_put (cs := #[.int .u64 t137, .int .u64 0]) ?_ 1 _ rfl; (with_reducible repeat (first | refine blk_drewN ?_ _ | refine blk_drew ?_ | refine blk_alloc ?_ _)); refine blk_put (cs := #[.int .u64 0, .int .u64 0]) ?_ 0 _ rfl; (with_reducible repeat (first | refine blk_drewN ?_ _ | refine blk_drew ?_ | refine blk_alloc ?_ _)); exact BK134.out⟩, ⟨by repeat (first | (with_reducible first | exact HB.out | apply below_alloc | apply pw_below_drewN | apply below_drew1 | refine below_set ?_ GE134.out) | exact HB.out)⟩⟩
    case rest =>
     clear HC12
     try clear c1
     try clear c2
     try clear p2
     try clear c4
     try clear c5
     try clear c6
     try clear c6b0
     try clear c6b1
     try clear c7
     try clear c7b0
     try clear c8
     try clear c15
     try clear c15b0
     try clear c16
     try clear c16b0
     try clear c17
     try clear c17b0
     try clear c18
     try clear c18b0
     try clear c19
     try clear c19b0
     try clear c20
     try clear c20b0
     try clear c21
     try clear c21b0
     try clear hcz14_0
     try clear hcz14_1
     try clear hfz14_0
     try clear hfz14_1
     try clear p2
     obtain ⟨kq, x11_11, rfl, HA, HJ11, BK134, HB⟩ := hcut
     cases kq with
     | zero => exact absurd HA.out (by simp [muldiv_quotient.j1])
     | succ kj11 =>
      have H := HA.out
      clear HA
      simp only [muldiv_quotient.j1] at H
      replace H := Option.bind_eq_some_iff.mp H
      obtain ⟨t139, A220, H⟩ := H
      replace H : ((muldiv_divided.f t137 t138 t139).bind fun bt140 => ((muldiv_size.f a2).bind fun t144 => ((muldiv_up.f bt140.2.2 t144 x11_11 a3).bind fun t145 => (if t145 = true then (muldiv_quotient.j2 kj11 x11_11 (IntKind.u64.wrap (bt140.1 + (add64c bt140.2.1 1 0))) (add64s bt140.2.1 1 0)) else (muldiv_quotient.j2 kj11 x11_11 bt140.1 bt140.2.1))))) = some (r1, r2) := H
      have A22 := Aside0.mk A220
      clear A220
      replace H := Option.bind_eq_some_iff.mp H
      obtain ⟨⟨t140, t141, t142⟩, A230, H⟩ := H
      replace H : ((muldiv_size.f a2).bind fun t144 => ((muldiv_up.f t142 t144 x11_11 a3).bind fun t145 => (if t145 = true then (muldiv_quotient.j2 kj11 x11_11 (IntKind.u64.wrap (t140 + (add64c t141 1 0))) (add64s t141 1 0)) else (muldiv_quotient.j2 kj11 x11_11 t140 t141)))) = some (r1, r2) := H
      have A23 := Aside0.mk A230
      clear A230
      replace H := Option.bind_eq_some_iff.mp H
      obtain ⟨t144, A240, H⟩ := H
      replace H : ((muldiv_up.f t142 t144 x11_11 a3).bind fun t145 => (if t145 = true then (muldiv_quotient.j2 kj11 x11_11 (IntKind.u64.wrap (t140 + (add64c t141 1 0))) (add64s t141 1 0)) else (muldiv_quotient.j2 kj11 x11_11 t140 t141))) = some (r1, r2) := H
      have A24 := Aside0.mk A240
      clear A240
      replace H := Option.bind_eq_some_iff.mp H
      obtain ⟨t145, A250, H⟩ := H
      replace H : (if t145 = true then (muldiv_quotient.j2 kj11 x11_11 (IntKind.u64.wrap (t140 + (add64c t141 1 0))) (add64s t141 1 0)) else (muldiv_quotient.j2 kj11 x11_11 t140 t141)) = some (r1, r2) := H
      have A25 := Aside0.mk A250
      clear A250
      have HC26 := Aside0.mk H
      clear H
      try go_wp2
      have n0_ := Aside0.mk (blk_drew BK134.out)
      have n1_ := Aside0.mk (below_drew1 HB.out)
      clear BK134
      clear HB
      have BK134 := n0_
      have HB := n1_
      clear n0_ n1_
      refine start_ (n := 10) (S := fun w' => w'.cell? ⟨gb134, 0, none⟩ = some (.int .u64 t137) ∧ w'.cell? ⟨gb134, 1, none⟩ = some (.int .u64 t138)) (ds := []) #[false, false, false, false, false, false, false, false, false, false] (by kernel_rfl) rfl rfl ⟨(blk_cell BK134.out 0).trans rfl, (blk_cell BK134.out 1).trans rfl⟩ (fun hHeld => ?_); refine with_tabW muldiv_quotient.tab6 muldiv_quotient.bits6 (fun HT_ HW_ => ?_)
      generalize wc.drew = w27 at BK134 HB hHeld ⊢
      refine pure_ (i := 1) (N := some 47) (v := ?_) (a' := ?_) #[false, true, false, false, false, false, false, false, false, false] rfl rfl (any_of HT_.out (by kernel_rfl)) (fun _ _ _ h => h) (Or.inl ⟨by rfl, ?_⟩) ?_ ?_
      rotate_left
      ·intro w'
       go_simp
       with_reducible rfl
      rotate_left
      ·simp only [Act.put, List.setIfInBounds_toArray, List.set_cons_zero, List.set_cons_succ, i64_w, i32_w]
       rfl
      refine take_ (i := 0) (N := some 46) (v := ?_) (a' := ?_) #[true, true, false, false, false, false, false, false, false, false] rfl rfl (take_ofW HT_.out HW_.out (by kernel_rfl)) (fun _ _ _ h => h) (Or.inl ⟨by rfl, ?_⟩) hHeld ?_ ?_
      rotate_left
      ·rintro w' ⟨s0, s1⟩
       go_simp
       with_reducible rfl
      rotate_left
      ·simp only [Act.put, List.setIfInBounds_toArray, List.set_cons_zero, List.set_cons_succ, i64_w, i32_w]
       rfl
      refine join_ (σ := Nat) 2 #[true, true, true, true, true, true, true, true, false, false] (fun s_ => [(48, .int .u64 t139), (49, .tuple #[.agg #[.int .u64 t140, .int .u64 t141], .int .u64 t142]), (12, .pointer (some ⟨s_, 0, none⟩)), (45, .tuple #[.agg #[.int .u64 t140, .int .u64 t141], .int .u64 t142]), (50, .agg #[.int .u64 t140, .int .u64 t141]), (51, .int .u64 t142)]) (fun s_ w' => (w'.cell? ⟨gb134, 0, none⟩ = some (.int .u64 t137) ∧ w'.cell? ⟨gb134, 1, none⟩ = some (.int .u64 t138)) ∧ (w'.heap[gb134]? = some (.cells #[.int .u64 t137, .int .u64 t138] 121 (0, 0))) ∧ (w'.heap[s_]? = some (.cells #[.int .u64 0, .int .u64 0] 121 (0, 0))) ∧ (w.heap.size ≤ s_) ∧ (w.heap.size ≤ s_) ∧ (gb134 ≠ s_) ∧ (s_ ≠ gb134) ∧ (Below w.heap.size w w')) ?_ ?_
      rotate_left
      ·intro hCont
       refine two_ (i := 2) (j := 7) (Ni := some 48) (Nj := some 12) #[true, true, true, false, false, false, false, false, false, false] #[true, true, false, false, false, false, false, true, false, false] rfl rfl rfl rfl (two_of HT_.out (by kernel_rfl)) (by decide) (by decide) (fun K hK => ?_) (fun K hK => ?_)
       ·skip
        refine goes_ Tryd.func57 (by kernel_rfl) rfl #[.int .i64 a2] (by rfl) rfl rfl (by (try simp only [List.map_toArray, List.map_cons, List.map_nil]); first | done | rfl | (simp only [List.length_drop, List.length_take]; rfl)) ?_
        with_reducible refine (muldiv_size.calls a2 t139 _ A22.out).mono ?_
        rintro e w' ⟨rfl, ⟨nd, rfl⟩⟩
        refine ⟨_, rfl, ?_⟩
        refine hK.out _ _ ⟨(blk_cell BK134.out 0).trans rfl, (blk_cell BK134.out 1).trans rfl⟩ (fun hHeld => ?_)
        clear hK K
        refine norm_ (a' := ?_) ?_ ?_
        rotate_left
        ·show Act.put _ (some 48) _ = _
         simp only [Act.put, List.setIfInBounds_toArray, List.set_cons_zero, List.set_cons_succ, i64_w, i32_w]
         rfl
        refine two_ (i := 3) (j := 7) (Ni := some 49) (Nj := some 12) #[true, true, true, true, false, false, false, false, false, false] #[true, true, true, false, false, false, false, true, false, false] rfl rfl rfl rfl (two_of HT_.out (by kernel_rfl)) (by decide) (by decide) (fun K hK => ?_) (fun K hK => ?_)
        ·skip
         refine goes_ Tryd.func58 (by kernel_rfl) rfl #[.agg #[.int .u64 t137, .int .u64 t138], .int .u64 t139] (by rfl) rfl rfl (by (try simp only [List.map_toArray, List.map_cons, List.map_nil]); first | done | rfl | (simp only [List.length_drop, List.length_take]; rfl)) ?_
         with_reducible refine (muldiv_divided.calls t137 t138 t139 t140 t141 t142 _ A23.out).mono ?_
         rintro e w28 ⟨rfl, hb⟩
         refine ⟨_, rfl, ?_⟩
         have n0_ := Aside0.mk (blk_below (g := gb134) (o := .cells #[.int .u64 t137, .int .u64 t138] 121 (0, 0)) (by (with_reducible repeat (first | refine blk_drewN ?_ _ | refine blk_drew ?_ | refine blk_alloc ?_ _)); exact BK134.out) hb)
         have n1_ := Aside0.mk (below_step (by repeat (first | (with_reducible first | exact HB.out | apply below_alloc | apply pw_below_drewN | apply below_drew1 | refine below_set ?_ GE134.out) | exact HB.out)) hb)
         clear BK134
         clear HB
         have BK134 := n0_
         have HB := n1_
         clear n0_ n1_
         (try clear hb)
         (try clear hb2)
         (try clear hk)
         (try clear hi)
         refine hK.out _ _ ⟨(blk_cell BK134.out 0).trans rfl, (blk_cell BK134.out 1).trans rfl⟩ (fun hHeld => ?_)
         clear hK K
         refine norm_ (a' := ?_) ?_ ?_
         rotate_left
         ·show Act.put _ (some 49) _ = _
          simp only [Act.put, List.setIfInBounds_toArray, List.set_cons_zero, List.set_cons_succ, i64_w, i32_w]
          rfl
         refine pure_ (i := 4) (N := some 45) (v := ?_) (a' := ?_) #[true, true, true, true, true, false, false, false, false, false] rfl rfl (any_of HT_.out (by kernel_rfl)) (fun _ _ _ h => h) (Or.inl ⟨by rfl, ?_⟩) ?_ ?_
         rotate_left
         ·intro w'
          go_simp
          with_reducible rfl
         rotate_left
         ·simp only [Act.put, List.setIfInBounds_toArray, List.set_cons_zero, List.set_cons_succ, i64_w, i32_w]
          rfl
         refine pure_ (i := 5) (N := some 50) (v := ?_) (a' := ?_) #[true, true, true, true, true, true, false, false, false, false] rfl rfl (any_of HT_.out (by kernel_rfl)) (fun _ _ _ h => h) (Or.inl ⟨by rfl, ?_⟩) ?_ ?_
         rotate_left
         ·intro w'
          go_simp
          with_reducible rfl
         rotate_left
         ·simp only [Act.put, List.setIfInBounds_toArray, List.set_cons_zero, List.set_cons_succ, i64_w, i32_w]
          rfl
         refine pure_ (i := 6) (N := some 51) (v := ?_) (a' := ?_) #[true, true, true, true, true, true, true, false, false, false] rfl rfl (any_of HT_.out (by kernel_rfl)) (fun _ _ _ h => h) (Or.inl ⟨by rfl, ?_⟩) ?_ ?_
         rotate_left
         ·intro w'
          go_simp
          with_reducible rfl
         rotate_left
         ·simp only [Act.put, List.setIfInBounds_toArray, List.set_cons_zero, List.set_cons_succ, i64_w, i32_w]
          rfl
         refine one_ (i := 7) (N := some 12) #[true, true, true, true, true, true, true, true, false, false] rfl rfl (one_of HT_.out (by kernel_rfl)) (by decide) (fun K hK => ?_)
         refine box_step ?hg (N := 12) ?hd (cs := #[.int .u64 0, .int .u64 0]) (t := 121) ?hr ?_; (case hd => rfl); (case hg => rfl); (case hr => first | (go_simp; done) | (go_simp; rfl))
         intro gb143 hg w29 hbox hb
         have n0_ := Aside0.mk (blk_below (g := gb134) (o := .cells #[.int .u64 t137, .int .u64 t138] 121 (0, 0)) (by (with_reducible repeat (first | refine blk_drewN ?_ _ | refine blk_drew ?_ | refine blk_alloc ?_ _)); exact BK134.out) hb)
         have n1_ := Aside0.mk (below_step (by repeat (first | (with_reducible first | exact HB.out | apply below_alloc | apply pw_below_drewN | apply below_drew1 | refine below_set ?_ GE134.out) | exact HB.out)) hb)
         have n2_ := Aside0.mk (hbox)
         have n3_ := Aside0.mk ((by rw [hg]; exact (below_size (by repeat (first | (with_reducible first | exact HB.out | apply below_alloc | apply pw_below_drewN | apply below_drew1 | refine below_set ?_ GE134.out) | exact HB.out))) : w.heap.size ≤ gb143))
         have n4_ := Aside0.mk ((by rw [hg]; exact (below_size (by repeat (first | (with_reducible first | exact HB.out | apply below_alloc | apply pw_below_drewN | apply below_drew1 | refine below_set ?_ GE134.out) | exact HB.out))) : w.heap.size ≤ gb143))
         have n5_ := Aside0.mk ((by rw [hg]; exact Nat.ne_of_lt (blk_lt (g := gb134) (o := .cells #[.int .u64 t137, .int .u64 t138] 121 (0, 0)) (by (with_reducible repeat (first | refine blk_drewN ?_ _ | refine blk_drew ?_ | refine blk_alloc ?_ _)); exact BK134.out)) : gb134 ≠ gb143))
         have n6_ := Aside0.mk ((by rw [hg]; exact Nat.ne_of_gt (blk_lt (g := gb134) (o := .cells #[.int .u64 t137, .int .u64 t138] 121 (0, 0)) (by (with_reducible repeat (first | refine blk_drewN ?_ _ | refine blk_drew ?_ | refine blk_alloc ?_ _)); exact BK134.out)) : gb143 ≠ gb134))
         clear BK134
         clear HB
         have BK134 := n0_
         have HB := n1_
         have BK143 := n2_
         have GW143 := n3_
         have GE143 := n4_
         have NB134_143 := n5_
         have NB143_134 := n6_
         clear n0_ n1_ n2_ n3_ n4_ n5_ n6_
         clear hb hbox hg
         refine hK.out _ _ ⟨(blk_cell BK134.out 0).trans rfl, (blk_cell BK134.out 1).trans rfl⟩ (fun hHeld => ?_)
         clear hK K
         refine norm_ (a' := ?_) ?_ ?_
         rotate_left
         ·show Act.put _ (some 12) _ = _
          simp only [Act.put, List.setIfInBounds_toArray, List.set_cons_zero, List.set_cons_succ, i64_w, i32_w]
          rfl
         exact norm_ (by simp only [putAll, Act.put, List.setIfInBounds_toArray, List.set_cons_zero, List.set_cons_succ]) (hCont (gb143) _ ⟨hHeld, (by (with_reducible repeat (first | refine blk_drewN ?_ _ | refine blk_drew ?_ | refine blk_alloc ?_ _)); exact BK134.out), (by (with_reducible repeat (first | refine blk_drewN ?_ _ | refine blk_drew ?_ | refine blk_alloc ?_ _)); exact BK143.out), GW143.out, GE143.out, NB134_143.out, NB143_134.out, (by repeat (first | (with_reducible first | exact HB.out | apply below_alloc | apply pw_below_drewN | apply below_drew1 | refine below_set ?_ GE134.out | refine below_set ?_ GE143.out) | exact HB.out))⟩)
        ·skip
         refine box_step ?hg (N := 12) ?hd (cs := #[.int .u64 0, .int .u64 0]) (t := 121) ?hr ?_; (case hd => rfl); (case hg => rfl); (case hr => first | (go_simp; done) | (go_simp; rfl))
         intro gb143 hg w28 hbox hb
         have n0_ := Aside0.mk (blk_below (g := gb134) (o := .cells #[.int .u64 t137, .int .u64 t138] 121 (0, 0)) (by (with_reducible repeat (first | refine blk_drewN ?_ _ | refine blk_drew ?_ | refine blk_alloc ?_ _)); exact BK134.out) hb)
         have n1_ := Aside0.mk (below_step (by repeat (first | (with_reducible first | exact HB.out | apply below_alloc | apply pw_below_drewN | apply below_drew1 | refine below_set ?_ GE134.out) | exact HB.out)) hb)
         have n2_ := Aside0.mk (hbox)
         have n3_ := Aside0.mk ((by rw [hg]; exact (below_size (by repeat (first | (with_reducible first | exact HB.out | apply below_alloc | apply pw_below_drewN | apply below_drew1 | refine below_set ?_ GE134.out) | exact HB.out))) : w.heap.size ≤ gb143))
         have n4_ := Aside0.mk ((by rw [hg]; exact (below_size (by repeat (first | (with_reducible first | exact HB.out | apply below_alloc | apply pw_below_drewN | apply below_drew1 | refine below_set ?_ GE134.out) | exact HB.out))) : w.heap.size ≤ gb143))
         have n5_ := Aside0.mk ((by rw [hg]; exact Nat.ne_of_lt (blk_lt (g := gb134) (o := .cells #[.int .u64 t137, .int .u64 t138] 121 (0, 0)) (by (with_reducible repeat (first | refine blk_drewN ?_ _ | refine blk_drew ?_ | refine blk_alloc ?_ _)); exact BK134.out)) : gb134 ≠ gb143))
         have n6_ := Aside0.mk ((by rw [hg]; exact Nat.ne_of_gt (blk_lt (g := gb134) (o := .cells #[.int .u64 t137, .int .u64 t138] 121 (0, 0)) (by (with_reducible repeat (first | refine blk_drewN ?_ _ | refine blk_drew ?_ | refine blk_alloc ?_ _)); exact BK134.out)) : gb143 ≠ gb134))
         clear BK134
         clear HB
         have BK134 := n0_
         have HB := n1_
         have BK143 := n2_
         have GW143 := n3_
         have GE143 := n4_
         have NB134_143 := n5_
         have NB143_134 := n6_
         clear n0_ n1_ n2_ n3_ n4_ n5_ n6_
         clear hb hbox hg
         refine hK.out _ _ ⟨(blk_cell BK134.out 0).trans rfl, (blk_cell BK134.out 1).trans rfl⟩ (fun hHeld => ?_)
         clear hK K
         refine norm_ (a' := ?_) ?_ ?_
         rotate_left
         ·show Act.put _ (some 12) _ = _
          simp only [Act.put, List.setIfInBounds_toArray, List.set_cons_zero, List.set_cons_succ, i64_w, i32_w]
          rfl
         refine one_ (i := 3) (N := some 49) #[true, true, true, true, false, false, false, true, false, false] rfl rfl (one_of HT_.out (by kernel_rfl)) (by decide) (fun K hK => ?_)
         refine goes_ Tryd.func58 (by kernel_rfl) rfl #[.agg #[.int .u64 t137, .int .u64 t138], .int .u64 t139] (by rfl) rfl rfl (by (try simp only [List.map_toArray, List.map_cons, List.map_nil]); first | done | rfl | (simp only [List.length_drop, List.length_take]; rfl)) ?_
         with_reducible refine (muldiv_divided.calls t137 t138 t139 t140 t141 t142 _ A23.out).mono ?_
         rintro e w29 ⟨rfl, hb⟩
         refine ⟨_, rfl, ?_⟩
         have n0_ := Aside0.mk (blk_below (g := gb134) (o := .cells #[.int .u64 t137, .int .u64 t138] 121 (0, 0)) (by (with_reducible repeat (first | refine blk_drewN ?_ _ | refine blk_drew ?_ | refine blk_alloc ?_ _)); exact BK134.out) hb)
         have n1_ := Aside0.mk (blk_below (g := gb143) (o := .cells #[.int .u64 0, .int .u64 0] 121 (0, 0)) (by (with_reducible repeat (first | refine blk_drewN ?_ _ | refine blk_drew ?_ | refine blk_alloc ?_ _)); exact BK143.out) hb)
         have n2_ := Aside0.mk (below_step (by repeat (first | (with_reducible first | exact HB.out | apply below_alloc | apply pw_below_drewN | apply below_drew1 | refine below_set ?_ GE134.out | refine below_set ?_ GE143.out) | exact HB.out)) hb)
         clear BK134
         clear BK143
         clear HB
         have BK134 := n0_
         have BK143 := n1_
         have HB := n2_
         clear n0_ n1_ n2_
         (try clear hb)
         (try clear hb2)
         (try clear hk)
         (try clear hi)
         refine hK.out _ _ ⟨(blk_cell BK134.out 0).trans rfl, (blk_cell BK134.out 1).trans rfl⟩ (fun hHeld => ?_)
         clear hK K
         refine norm_ (a' := ?_) ?_ ?_
         rotate_left
         ·show Act.put _ (some 49) _ = _
          simp only [Act.put, List.setIfInBounds_toArray, List.set_cons_zero, List.set_cons_succ, i64_w, i32_w]
          rfl
         refine pure_ (i := 4) (N := some 45) (v := ?_) (a' := ?_) #[true, true, true, true, true, false, false, true, false, false] rfl rfl (any_of HT_.out (by kernel_rfl)) (fun _ _ _ h => h) (Or.inl ⟨by rfl, ?_⟩) ?_ ?_
         rotate_left
         ·intro w'
          go_simp
          with_reducible rfl
         rotate_left
         ·simp only [Act.put, List.setIfInBounds_toArray, List.set_cons_zero, List.set_cons_succ, i64_w, i32_w]
          rfl
         refine pure_ (i := 5) (N := some 50) (v := ?_) (a' := ?_) #[true, true, true, true, true, true, false, true, false, false] rfl rfl (any_of HT_.out (by kernel_rfl)) (fun _ _ _ h => h) (Or.inl ⟨by rfl, ?_⟩) ?_ ?_
         rotate_left
         ·intro w'
          go_simp
          with_reducible rfl
         rotate_left
         ·simp only [Act.put, List.setIfInBounds_toArray, List.set_cons_zero, List.set_cons_succ, i64_w, i32_w]
          rfl
         refine pure_ (i := 6) (N := some 51) (v := ?_) (a' := ?_) #[true, true, true, true, true, true, true, true, false, false] rfl rfl (any_of HT_.out (by kernel_rfl)) (fun _ _ _ h => h) (Or.inl ⟨by rfl, ?_⟩) ?_ ?_
         rotate_left
         ·intro w'
          go_simp
          with_reducible rfl
         rotate_left
         ·simp only [Act.put, List.setIfInBounds_toArray, List.set_cons_zero, List.set_cons_succ, i64_w, i32_w]
          rfl
         exact norm_ (by simp only [putAll, Act.put, List.setIfInBounds_toArray, List.set_cons_zero, List.set_cons_succ]) (hCont (gb143) _ ⟨hHeld, (by (with_reducible repeat (first | refine blk_drewN ?_ _ | refine blk_drew ?_ | refine blk_alloc ?_ _)); exact BK134.out), (by (with_reducible repeat (first | refine blk_drewN ?_ _ | refine blk_drew ?_ | refine blk_alloc ?_ _)); exact BK143.out), GW143.out, GE143.out, NB134_143.out, NB143_134.out, (by repeat (first | (with_reducible first | exact HB.out | apply below_alloc | apply pw_below_drewN | apply below_drew1 | refine below_set ?_ GE134.out | refine below_set ?_ GE143.out) | exact HB.out))⟩)
       ·skip
        refine box_step ?hg (N := 12) ?hd (cs := #[.int .u64 0, .int .u64 0]) (t := 121) ?hr ?_; (case hd => rfl); (case hg => rfl); (case hr => first | (go_simp; done) | (go_simp; rfl))
        intro gb143 hg w28 hbox hb
        have n0_ := Aside0.mk (blk_below (g := gb134) (o := .cells #[.int .u64 t137, .int .u64 t138] 121 (0, 0)) (by (with_reducible repeat (first | refine blk_drewN ?_ _ | refine blk_drew ?_ | refine blk_alloc ?_ _)); exact BK134.out) hb)
        have n1_ := Aside0.mk (below_step (by repeat (first | (with_reducible first | exact HB.out | apply below_alloc | apply pw_below_drewN | apply below_drew1 | refine below_set ?_ GE134.out) | exact HB.out)) hb)
        have n2_ := Aside0.mk (hbox)
        have n3_ := Aside0.mk ((by rw [hg]; exact (below_size (by repeat (first | (with_reducible first | exact HB.out | apply below_alloc | apply pw_below_drewN | apply below_drew1 | refine below_set ?_ GE134.out) | exact HB.out))) : w.heap.size ≤ gb143))
        have n4_ := Aside0.mk ((by rw [hg]; exact (below_size (by repeat (first | (with_reducible first | exact HB.out | apply below_alloc | apply pw_below_drewN | apply below_drew1 | refine below_set ?_ GE134.out) | exact HB.out))) : w.heap.size ≤ gb143))
        have n5_ := Aside0.mk ((by rw [hg]; exact Nat.ne_of_lt (blk_lt (g := gb134) (o := .cells #[.int .u64 t137, .int .u64 t138] 121 (0, 0)) (by (with_reducible repeat (first | refine blk_drewN ?_ _ | refine blk_drew ?_ | refine blk_alloc ?_ _)); exact BK134.out)) : gb134 ≠ gb143))
        have n6_ := Aside0.mk ((by rw [hg]; exact Nat.ne_of_gt (blk_lt (g := gb134) (o := .cells #[.int .u64 t137, .int .u64 t138] 121 (0, 0)) (by (with_reducible repeat (first | refine blk_drewN ?_ _ | refine blk_drew ?_ | refine blk_alloc ?_ _)); exact BK134.out)) : gb143 ≠ gb134))
        clear BK134
        clear HB
        have BK134 := n0_
        have HB := n1_
        have BK143 := n2_
        have GW143 := n3_
        have GE143 := n4_
        have NB134_143 := n5_
        have NB143_134 := n6_
        clear n0_ n1_ n2_ n3_ n4_ n5_ n6_
        clear hb hbox hg
        refine hK.out _ _ ⟨(blk_cell BK134.out 0).trans rfl, (blk_cell BK134.out 1).trans rfl⟩ (fun hHeld => ?_)
        clear hK K
        refine norm_ (a' := ?_) ?_ ?_
        rotate_left
        ·show Act.put _ (some 12) _ = _
         simp only [Act.put, List.setIfInBounds_toArray, List.set_cons_zero, List.set_cons_succ, i64_w, i32_w]
         rfl
        refine one_ (i := 2) (N := some 48) #[true, true, true, false, false, false, false, true, false, false] rfl rfl (one_of HT_.out (by kernel_rfl)) (by decide) (fun K hK => ?_)
        refine goes_ Tryd.func57 (by kernel_rfl) rfl #[.int .i64 a2] (by rfl) rfl rfl (by (try simp only [List.map_toArray, List.map_cons, List.map_nil]); first | done | rfl | (simp only [List.length_drop, List.length_take]; rfl)) ?_
        with_reducible refine (muldiv_size.calls a2 t139 _ A22.out).mono ?_
        rintro e w' ⟨rfl, ⟨nd, rfl⟩⟩
        refine ⟨_, rfl, ?_⟩
        refine hK.out _ _ ⟨(blk_cell BK134.out 0).trans rfl, (blk_cell BK134.out 1).trans rfl⟩ (fun hHeld => ?_)
        clear hK K
        refine norm_ (a' := ?_) ?_ ?_
        rotate_left
        ·show Act.put _ (some 48) _ = _
         simp only [Act.put, List.setIfInBounds_toArray, List.set_cons_zero, List.set_cons_succ, i64_w, i32_w]
         rfl
        refine one_ (i := 3) (N := some 49) #[true, true, true, true, false, false, false, true, false, false] rfl rfl (one_of HT_.out (by kernel_rfl)) (by decide) (fun K hK => ?_)
        refine goes_ Tryd.func58 (by kernel_rfl) rfl #[.agg #[.int .u64 t137, .int .u64 t138], .int .u64 t139] (by rfl) rfl rfl (by (try simp only [List.map_toArray, List.map_cons, List.map_nil]); first | done | rfl | (simp only [List.length_drop, List.length_take]; rfl)) ?_
        with_reducible refine (muldiv_divided.calls t137 t138 t139 t140 t141 t142 _ A23.out).mono ?_
        rintro e w29 ⟨rfl, hb⟩
        refine ⟨_, rfl, ?_⟩
        have n0_ := Aside0.mk (blk_below (g := gb134) (o := .cells #[.int .u64 t137, .int .u64 t138] 121 (0, 0)) (by (with_reducible repeat (first | refine blk_drewN ?_ _ | refine blk_drew ?_ | refine blk_alloc ?_ _)); exact BK134.out) hb)
        have n1_ := Aside0.mk (blk_below (g := gb143) (o := .cells #[.int .u64 0, .int .u64 0] 121 (0, 0)) (by (with_reducible repeat (first | refine blk_drewN ?_ _ | refine blk_drew ?_ | refine blk_alloc ?_ _)); exact BK143.out) hb)
        have n2_ := Aside0.mk (below_step (by repeat (first | (with_reducible first | exact HB.out | apply below_alloc | apply pw_below_drewN | apply below_drew1 | refine below_set ?_ GE134.out | refine below_set ?_ GE143.out) | exact HB.out)) hb)
        clear BK134
        clear BK143
        clear HB
        have BK134 := n0_
        have BK143 := n1_
        have HB := n2_
        clear n0_ n1_ n2_
        (try clear hb)
        (try clear hb2)
        (try clear hk)
        (try clear hi)
        refine hK.out _ _ ⟨(blk_cell BK134.out 0).trans rfl, (blk_cell BK134.out 1).trans rfl⟩ (fun hHeld => ?_)
        clear hK K
        refine norm_ (a' := ?_) ?_ ?_
        rotate_left
        ·show Act.put _ (some 49) _ = _
         simp only [Act.put, List.setIfInBounds_toArray, List.set_cons_zero, List.set_cons_succ, i64_w, i32_w]
         rfl
        refine pure_ (i := 4) (N := some 45) (v := ?_) (a' := ?_) #[true, true, true, true, true, false, false, true, false, false] rfl rfl (any_of HT_.out (by kernel_rfl)) (fun _ _ _ h => h) (Or.inl ⟨by rfl, ?_⟩) ?_ ?_
        rotate_left
        ·intro w'
         go_simp
         with_reducible rfl
        rotate_left
        ·simp only [Act.put, List.setIfInBounds_toArray, List.set_cons_zero, List.set_cons_succ, i64_w, i32_w]
         rfl
        refine pure_ (i := 5) (N := some 50) (v := ?_) (a' := ?_) #[true, true, true, true, true, true, false, true, false, false] rfl rfl (any_of HT_.out (by kernel_rfl)) (fun _ _ _ h => h) (Or.inl ⟨by rfl, ?_⟩) ?_ ?_
        rotate_left
        ·intro w'
         go_simp
         with_reducible rfl
        rotate_left
        ·simp only [Act.put, List.setIfInBounds_toArray, List.set_cons_zero, List.set_cons_succ, i64_w, i32_w]
         rfl
        refine pure_ (i := 6) (N := some 51) (v := ?_) (a' := ?_) #[true, true, true, true, true, true, true, true, false, false] rfl rfl (any_of HT_.out (by kernel_rfl)) (fun _ _ _ h => h) (Or.inl ⟨by rfl, ?_⟩) ?_ ?_
        rotate_left
        ·intro w'
         go_simp
         with_reducible rfl
        rotate_left
        ·simp only [Act.put, List.setIfInBounds_toArray, List.set_cons_zero, List.set_cons_succ, i64_w, i32_w]
         rfl
        exact norm_ (by simp only [putAll, Act.put, List.setIfInBounds_toArray, List.set_cons_zero, List.set_cons_succ]) (hCont (gb143) _ ⟨hHeld, (by (with_reducible repeat (first | refine blk_drewN ?_ _ | refine blk_drew ?_ | refine blk_alloc ?_ _)); exact BK134.out), (by (with_reducible repeat (first | refine blk_drewN ?_ _ | refine blk_drew ?_ | refine blk_alloc ?_ _)); exact BK143.out), GW143.out, GE143.out, NB134_143.out, NB143_134.out, (by repeat (first | (with_reducible first | exact HB.out | apply below_alloc | apply pw_below_drewN | apply below_drew1 | refine below_set ?_ GE134.out | refine below_set ?_ GE143.out) | exact HB.out))⟩)
      rintro gb143 w30 ⟨hS_, h0_, h1_, h2_, h3_, h4_, h5_, h6_⟩
      have n0_ : Aside0 (w30.heap[gb134]? = some (.cells #[.int .u64 t137, .int .u64 t138] 121 (0, 0))) := ⟨h0_⟩
      have n1_ : Aside0 (w30.heap[gb143]? = some (.cells #[.int .u64 0, .int .u64 0] 121 (0, 0))) := ⟨h1_⟩
      have n2_ : Aside0 (w.heap.size ≤ gb143) := ⟨h2_⟩
      have n3_ : Aside0 (w.heap.size ≤ gb143) := ⟨h3_⟩
      have n4_ : Aside0 (gb134 ≠ gb143) := ⟨h4_⟩
      have n5_ : Aside0 (gb143 ≠ gb134) := ⟨h5_⟩
      have n6_ : Aside0 (Below w.heap.size w w30) := ⟨h6_⟩
      clear BK134
      clear HB
      clear h0_ h1_ h2_ h3_ h4_ h5_ h6_
      have BK134 := n0_
      have BK143 := n1_
      have GW143 := n2_
      have GE143 := n3_
      have NB134_143 := n4_
      have NB143_134 := n5_
      have HB := n6_
      clear n0_ n1_ n2_ n3_ n4_ n5_ n6_
      have hHeld : w30.cell? ⟨gb134, 0, none⟩ = some (.int .u64 t137) ∧ w30.cell? ⟨gb134, 1, none⟩ = some (.int .u64 t138) := hS_
      refine norm_ (a' := ?_) ?_ ?_
      rotate_left
      ·simp only [putAll, Act.put, List.setIfInBounds_toArray, List.set_cons_zero, List.set_cons_succ]
       rfl
      refine one_ (i := 8) (N := none) #[true, true, true, true, true, true, true, true, true, false] rfl rfl (one_of HT_.out (by kernel_rfl)) (by decide) (fun K hK => ?_)
      have hs31 : w30.cell? ⟨gb143, 0, none⟩ = some (.int .u64 0) := (blk_cell BK143.out 0).trans rfl
      have hfs31 := blk_frozen BK143.out 0
      have hns31_0 := NB134_143.out
      have hms31_0 := NB143_134.out
      have hs32 : w30.cell? ⟨gb143, 1, none⟩ = some (.int .u64 0) := (blk_cell BK143.out 1).trans rfl
      have hfs32 := blk_frozen BK143.out 1
      have hns32_0 := NB134_143.out
      have hms32_0 := NB143_134.out
      refine skip_ (w1 := ?_) (by rfl) rfl ?_ ?_
      rotate_left
      ·go_simp
       rfl
      refine hK.out _ _ ⟨((cell_far (p := ⟨gb143, _, none⟩) NB134_143.out _).trans (((cell_far (p := ⟨gb143, _, none⟩) NB134_143.out _).trans (hHeld.1)))), ((cell_far (p := ⟨gb143, _, none⟩) NB134_143.out _).trans (((cell_far (p := ⟨gb143, _, none⟩) NB134_143.out _).trans (hHeld.2))))⟩ (fun hHeld => ?_)
      clear hK K
      refine pure_ (i := 9) (N := some 13) (v := ?_) (a' := ?_) #[true, true, true, true, true, true, true, true, true, true] rfl rfl (any_of HT_.out (by kernel_rfl)) (fun _ _ _ h => h) (Or.inl ⟨by rfl, ?_⟩) ?_ ?_
      rotate_left
      ·intro w'
       go_simp
       with_reducible rfl
      rotate_left
      ·simp only [Act.put, List.setIfInBounds_toArray, List.set_cons_zero, List.set_cons_succ, i64_w, i32_w]
       rfl
      refine done_ (done_of HT_.out (by kernel_rfl)) ?_
      go_upto_if 57 with (first | ((with_reducible refine gate_callee (f := 57) rfl ?_); refine goesL_ (some 54) rfl rfl Tryd.func57 (by kernel_rfl) rfl #[.int .i64 a2] rfl (by (try simp only [List.map_toArray, List.map_cons, List.map_nil]); first | done | rfl | (simp only [List.length_drop, List.length_take]; rfl)) ?_; (with_reducible refine (muldiv_size.calls a2 t144 _ A24.out).mono ?_); rintro e w' ⟨rfl, ⟨nd, rfl⟩⟩; refine ⟨_, rfl, ?_⟩) | ((with_reducible refine gate_callee (f := 59) rfl ?_); refine goesL_ (some 57) rfl rfl Tryd.func59 (by kernel_rfl) rfl #[.int .u64 t142, .int .u64 t144, .bool x11_11, .int .i64 a3] rfl (by (try simp only [List.map_toArray, List.map_cons, List.map_nil]); first | done | rfl | (simp only [List.length_drop, List.length_take]; rfl)) ?_; (with_reducible refine (muldiv_up.calls t142 t144 x11_11 a3 t145 _ A25.out).mono ?_); rintro e w' ⟨rfl, ⟨nd, rfl⟩⟩; refine ⟨_, rfl, ?_⟩))
      (try simp only [Act.put, List.setIfInBounds_toArray, List.set_cons_zero, List.set_cons_succ])
      go_cut [] (fun wc => ∃ (kq : Nat) (x144000_25 : Int) (x144001_25 : Int), Aside0 (muldiv_quotient.j2 kq x11_11 x144000_25 x144001_25 = some (r1, r2)) ∧ Aside0 (kq ≤ kj11) ∧ Aside0 (wc.heap[gb134]? = some (.cells #[.int .u64 t137, .int .u64 t138] 121 (0, 0))) ∧ Aside0 (wc.heap[gb143]? = some (.cells #[.int .u64 x144000_25, .int .u64 x144001_25] 121 (0, 0))) ∧ Aside0 (Below w.heap.size w wc))
      case first =>
       have H := HC26.out
       clear HC26
       by_cases c33 : t145 = true
       ·subst c33
        have H1 : (muldiv_quotient.j2 kj11 x11_11 (IntKind.u64.wrap (t140 + (add64c t141 1 0))) (add64s t141 1 0)) = some (r1, r2) := by rw [if_pos rfl] at H; exact H
        clear H
        have H := H1
        clear H1
        have H' := Aside0.mk H
        clear H
        have hnb34 := NB143_134.out
        have hnc34 := NB134_143.out
        have hcz35_0 : w30.cell? ⟨gb143, 0, none⟩ = some (.int .u64 0) := (blk_cell BK143.out 0).trans rfl
        have hcz35_1 : w30.cell? ⟨gb143, 1, none⟩ = some (.int .u64 0) := (blk_cell BK143.out 1).trans rfl
        have hfz35_0 := blk_frozen BK143.out 0
        have hfz35_1 := blk_frozen BK143.out 1
        go_wp2
        go_meet
        case rel => exact ⟨_, (IntKind.u64.wrap (t140 + (add64c t141 1 0))), (add64s t141 1 0), H', ⟨by have := HJ4.out; have := HJ11.out; first | omega | exact Nat.le_refl _⟩, ⟨by (with_reducible repeat (first | refine blk_drewN ?_ _ | refine blk_drew ?_ | refine blk_alloc ?_ _)); refine blk_far ?_ NB134_143.out _; (with_reducible repeat (first | refine blk_drewN ?_ _ | refine blk_drew ?_ | refine blk_alloc ?_ _)); refine blk_far ?_ NB134_143.out _; (with_reducible repeat (first | refine blk_drewN ?_ _ | refine blk_drew ?_ | refine blk_alloc ?_ _)); refine blk_far ?_ NB134_143.out _; (with_reducible repeat (first | refine blk_drewN ?_ _ | refine blk_drew ?_ | refine blk_alloc ?_ _)); refine blk_far ?_ NB134_143.out _; (with_reducible repeat (first | refine blk_drewN ?_ _ | refine blk_drew ?_ | refine blk_alloc ?_ _)); exact BK134.out⟩, ⟨by (with_reducible repeat (first | refine blk_drewN ?_ _ | refine blk_drew ?_ | refine blk_alloc ?_ _)); refine blk_put (cs := #[.int .u64 (IntKind.u64.wrap (t140 + (add64c t141 1 0))), .int .u64 t141]) ?_ 1 _ rfl; (with_reducible repeat (first | refine blk_drewN ?_ _ | refine blk_drew ?_ | refine blk_alloc ?_ _)); refine blk_put (cs := #[.int .u64 t140, .int .u64 t141]) ?_ 0 _ rfl; (with_reducible repeat (first | refine blk_drewN ?_ _ | refine blk_drew ?_ | refine blk_alloc ?_ _)); refine blk_put (cs := #[.int .u64 t140, .int .u64 0]) ?_ 1 _ rfl; (with_reducible repeat (first | refine blk_drewN ?_ _ | refine blk_drew ?_ | refine blk_alloc ?_ _)); refine blk_put (cs := #[.int .u64 0, .int .u64 0]) ?_ 0 _ rfl; (with_reducible repeat (first | refine blk_drewN ?_ _ | refine blk_drew ?_ | refine blk_alloc ?_ _)); exact BK143.out⟩, ⟨by repeat (first | (with_reducible first | exact HB.out | apply below_alloc | apply pw_below_drewN | apply below_drew1 | refine below_set ?_ GE134.out | refine below_set ?_ GE143.out) | exact HB.out)⟩⟩
       ·replace c33 := Bool.eq_false_iff.mpr c33
        subst c33
        have H1 : (muldiv_quotient.j2 kj11 x11_11 t140 t141) = some (r1, r2) := by rw [if_neg (show ¬ (false = true) by decide)] at H; exact H
        clear H
        have H := H1
        clear H1
        have H' := Aside0.mk H
        clear H
        go_wp2
        go_meet
        case rel => exact ⟨_, (t140), (t141), H', ⟨by have := HJ4.out; have := HJ11.out; first | omega | exact Nat.le_refl _⟩, ⟨by (with_reducible repeat (first | refine blk_drewN ?_ _ | refine blk_drew ?_ | refine blk_alloc ?_ _)); refine blk_far ?_ NB134_143.out _; (with_reducible repeat (first | refine blk_drewN ?_ _ | refine blk_drew ?_ | refine blk_alloc ?_ _)); refine blk_far ?_ NB134_143.out _; (with_reducible repeat (first | refine blk_drewN ?_ _ | refine blk_drew ?_ | refine blk_alloc ?_ _)); exact BK134.out⟩, ⟨by (with_reducible repeat (first | refine blk_drewN ?_ _ | refine blk_drew ?_ | refine blk_alloc ?_ _)); refine blk_put (cs := #[.int .u64 t140, .int .u64 0]) ?_ 1 _ rfl; (with_reducible repeat (first | refine blk_drewN ?_ _ | refine blk_drew ?_ | refine blk_alloc ?_ _)); refine blk_put (cs := #[.int .u64 0, .int .u64 0]) ?_ 0 _ rfl; (with_reducible repeat (first | refine blk_drewN ?_ _ | refine blk_drew ?_ | refine blk_alloc ?_ _)); exact BK143.out⟩, ⟨by repeat (first | (with_reducible first | exact HB.out | apply below_alloc | apply pw_below_drewN | apply below_drew1 | refine below_set ?_ GE134.out | refine below_set ?_ GE143.out) | exact HB.out)⟩⟩
      case rest =>
       clear HC26
       try clear c1
       try clear c2
       try clear p2
       try clear c3
       try clear c4
       try clear c5
       try clear c6
       try clear c6b0
       try clear c6b1
       try clear c7
       try clear c7b0
       try clear c8
       try clear c15
       try clear c15b0
       try clear c16
       try clear c16b0
       try clear c17
       try clear c17b0
       try clear c18
       try clear c18b0
       try clear c19
       try clear c19b0
       try clear c20
       try clear c20b0
       try clear c21
       try clear c21b0
       try clear c33
       try clear c34
       try clear hcz14_0
       try clear hcz14_1
       try clear hcz35_0
       try clear hcz35_1
       try clear hfz14_0
       try clear hfz14_1
       try clear hfz35_0
       try clear hfz35_1
       try clear p2
       obtain ⟨kq, x144000_25, x144001_25, HA, HJ25, BK134, BK143, HB⟩ := hcut
       cases kq with
       | zero => exact absurd HA.out (by simp [muldiv_quotient.j2])
       | succ kj25 =>
        have H := HA.out
        clear HA
        simp only [muldiv_quotient.j2] at H
        have HC36 := Aside0.mk H
        clear H
        go_upto_if 70 with (fail)
        go_cut [16] (fun v16 wc => ∃ (kq : Nat) (x16_35 : Int), v16 = .int .u64 x16_35 ∧ Aside0 (muldiv_quotient.j3 kq x11_11 x16_35 x144000_25 x144001_25 = some (r1, r2)) ∧ Aside0 (kq ≤ kj25) ∧ Aside0 (wc.heap[gb134]? = some (.cells #[.int .u64 t137, .int .u64 t138] 121 (0, 0))) ∧ Aside0 (wc.heap[gb143]? = some (.cells #[.int .u64 x144000_25, .int .u64 x144001_25] 121 (0, 0))) ∧ Aside0 (Below w.heap.size w wc))
        case first =>
         have H := HC36.out
         clear HC36
         by_cases c37 : x11_11 = true
         ·subst c37
          have H1 : (muldiv_quotient.j3 kj25 true (9223372036854775807 + 1) x144000_25 x144001_25) = some (r1, r2) := by rw [if_pos rfl] at H; exact H
          clear H
          have H := H1
          clear H1
          have H' := Aside0.mk H
          clear H
          go_wp2
          go_meet
          case rel => exact ⟨_, (9223372036854775807 + 1), (by first | rfl | (simp; done) | (simp [*]; done)), H', ⟨by have := HJ4.out; have := HJ11.out; have := HJ25.out; first | omega | exact Nat.le_refl _⟩, ⟨by (with_reducible repeat (first | refine blk_drewN ?_ _ | refine blk_drew ?_ | refine blk_alloc ?_ _)); exact BK134.out⟩, ⟨by (with_reducible repeat (first | refine blk_drewN ?_ _ | refine blk_drew ?_ | refine blk_alloc ?_ _)); exact BK143.out⟩, ⟨by repeat (first | (with_reducible first | exact HB.out | apply below_alloc | apply pw_below_drewN | apply below_drew1 | refine below_set ?_ GE134.out | refine below_set ?_ GE143.out) | exact HB.out)⟩⟩
         ·replace c37 := Bool.eq_false_iff.mpr c37
          subst c37
          have H1 : (muldiv_quotient.j3 kj25 false 9223372036854775807 x144000_25 x144001_25) = some (r1, r2) := by rw [if_neg (show ¬ (false = true) by decide)] at H; exact H
          clear H
          have H := H1
          clear H1
          have H' := Aside0.mk H
          clear H
          go_wp2
          go_meet
          case rel => exact ⟨_, (9223372036854775807), (by first | rfl | (simp; done) | (simp [*]; done)), H', ⟨by have := HJ4.out; have := HJ11.out; have := HJ25.out; first | omega | exact Nat.le_refl _⟩, ⟨by (with_reducible repeat (first | refine blk_drewN ?_ _ | refine blk_drew ?_ | refine blk_alloc ?_ _)); exact BK134.out⟩, ⟨by (with_reducible repeat (first | refine blk_drewN ?_ _ | refine blk_drew ?_ | refine blk_alloc ?_ _)); exact BK143.out⟩, ⟨by repeat (first | (with_reducible first | exact HB.out | apply below_alloc | apply pw_below_drewN | apply below_drew1 | refine below_set ?_ GE134.out | refine below_set ?_ GE143.out) | exact HB.out)⟩⟩
        case rest =>
         clear HC36
         try clear c1
         try clear c2
         try clear p2
         try clear c3
         try clear c4
         try clear c5
         try clear c6
         try clear c6b0
         try clear c6b1
         try clear c7
         try clear c7b0
         try clear c8
         try clear c15
         try clear c15b0
         try clear c16
         try clear c16b0
         try clear c17
         try clear c17b0
         try clear c18
         try clear c18b0
         try clear c19
         try clear c19b0
         try clear c20
         try clear c20b0
         try clear c21
         try clear c21b0
         try clear c33
         try clear c34
         try clear c37
         try clear hcz14_0
         try clear hcz14_1
         try clear hcz35_0
         try clear hcz35_1
         try clear hfz14_0
         try clear hfz14_1
         try clear hfz35_0
         try clear hfz35_1
         try clear p2
         obtain ⟨kq, x16_35, rfl, HA, HJ35, BK134, BK143, HB⟩ := hcut
         cases kq with
         | zero => exact absurd HA.out (by simp [muldiv_quotient.j3])
         | succ kj35 =>
          have H := HA.out
          clear HA
          simp only [muldiv_quotient.j3] at H
          have HC38 := Aside0.mk H
          clear H
          go_upto_region 13 with (fail)
          go_cut [73] (fun v73 wc => ∃ (kq : Nat) (x73_37 : Bool), v73 = .bool x73_37 ∧ Aside0 (muldiv_quotient.j4 kq x11_11 x73_37 x144000_25 x144001_25 = some (r1, r2)) ∧ Aside0 (kq ≤ kj35) ∧ Aside0 (wc.heap[gb134]? = some (.cells #[.int .u64 t137, .int .u64 t138] 121 (0, 0))) ∧ Aside0 (wc.heap[gb143]? = some (.cells #[.int .u64 x144000_25, .int .u64 x144001_25] 121 (0, 0))) ∧ Aside0 (Below w.heap.size w wc))
          case first =>
           have H := HC38.out
           clear HC38
           by_cases c39 : x144000_25 > 0
           ·rw [if_pos c39] at H
            have c39b0 : decide (0 < x144000_25) = true := decide_eq_true c39
            clear c39
            (first | rw [c39b0] | (simp only [i64_w, i32_w]; rw [c39b0]) | skip)
            have H' := Aside0.mk H
            clear H
            have hnb40 := NB143_134.out
            have hnc40 := NB134_143.out
            have hcz41_0 : wc.cell? ⟨gb143, 0, none⟩ = some (.int .u64 x144000_25) := (blk_cell BK143.out 0).trans rfl
            have hcz41_1 : wc.cell? ⟨gb143, 1, none⟩ = some (.int .u64 x144001_25) := (blk_cell BK143.out 1).trans rfl
            have hfz41_0 := blk_frozen BK143.out 0
            have hfz41_1 := blk_frozen BK143.out 1
            go_wp2
            go_meet
            case rel => exact ⟨_, (true), (by first | rfl | (simp; done) | (simp [*]; done)), H', ⟨by have := HJ4.out; have := HJ11.out; have := HJ25.out; have := HJ35.out; first | omega | exact Nat.le_refl _⟩, ⟨by (with_reducible repeat (first | refine blk_drewN ?_ _ | refine blk_drew ?_ | refine blk_alloc ?_ _)); exact BK134.out⟩, ⟨by (with_reducible repeat (first | refine blk_drewN ?_ _ | refine blk_drew ?_ | refine blk_alloc ?_ _)); exact BK143.out⟩, ⟨by repeat (first | (with_reducible first | exact HB.out | apply below_alloc | apply pw_below_drewN | apply below_drew1 | refine below_set ?_ GE134.out | refine below_set ?_ GE143.out) | exact HB.out)⟩⟩
           ·rw [if_neg c39] at H
            have c39b0 : decide (0 < x144000_25) = false := decide_eq_false c39
            clear c39
            (first | rw [c39b0] | (simp only [i64_w, i32_w]; rw [c39b0]) | skip)
            have H' := Aside0.mk H
            clear H
            have hnb42 := NB143_134.out
            have hnc42 := NB134_143.out
            have hcz43_0 : wc.cell? ⟨gb143, 0, none⟩ = some (.int .u64 x144000_25) := (blk_cell BK143.out 0).trans rfl
            have hcz43_1 : wc.cell? ⟨gb143, 1, none⟩ = some (.int .u64 x144001_25) := (blk_cell BK143.out 1).trans rfl
            have hfz43_0 := blk_frozen BK143.out 0
            have hfz43_1 := blk_frozen BK143.out 1
            go_wp2
            go_meet
            case rel => exact ⟨_, (decide (x144001_25 > x16_35)), (by first | rfl | (simp; done) | (simp [*]; done)), H', ⟨by have := HJ4.out; have := HJ11.out; have := HJ25.out; have := HJ35.out; first | omega | exact Nat.le_refl _⟩, ⟨by (with_reducible repeat (first | refine blk_drewN ?_ _ | refine blk_drew ?_ | refine blk_alloc ?_ _)); exact BK134.out⟩, ⟨by (with_reducible repeat (first | refine blk_drewN ?_ _ | refine blk_drew ?_ | refine blk_alloc ?_ _)); exact BK143.out⟩, ⟨by repeat (first | (with_reducible first | exact HB.out | apply below_alloc | apply pw_below_drewN | apply below_drew1 | refine below_set ?_ GE134.out | refine below_set ?_ GE143.out) | exact HB.out)⟩⟩
          case rest =>
           clear HC38
           try clear c1
           try clear c2
           try clear p2
           try clear c3
           try clear c4
           try clear c5
           try clear c6
           try clear c6b0
           try clear c6b1
           try clear c7
           try clear c7b0
           try clear c8
           try clear c15
           try clear c15b0
           try clear c16
           try clear c16b0
           try clear c17
           try clear c17b0
           try clear c18
           try clear c18b0
           try clear c19
           try clear c19b0
           try clear c20
           try clear c20b0
           try clear c21
           try clear c21b0
           try clear c33
           try clear c34
           try clear c37
           try clear c39
           try clear c39b0
           try clear c40
           try clear c42
           try clear hcz14_0
           try clear hcz14_1
           try clear hcz35_0
           try clear hcz35_1
           try clear hcz41_0
           try clear hcz41_1
           try clear hcz43_0
           try clear hcz43_1
           try clear hfz14_0
           try clear hfz14_1
           try clear hfz35_0
           try clear hfz35_1
           try clear hfz41_0
           try clear hfz41_1
           try clear hfz43_0
           try clear hfz43_1
           try clear p2
           obtain ⟨kq, x73_37, rfl, HA, HJ37, BK134, BK143, HB⟩ := hcut
           cases kq with
           | zero => exact absurd HA.out (by simp [muldiv_quotient.j4])
           | succ kj37 =>
            have H := HA.out
            clear HA
            simp only [muldiv_quotient.j4] at H
            by_cases c44 : x73_37 = true
            ·subst c44
             have H1 : (if x11_11 = true then (some ((-9223372036854775808), false)) else (some (9223372036854775807, false))) = some (r1, r2) := by rw [if_pos rfl] at H; exact H
             clear H
             have H := H1
             clear H1
             by_cases c45 : x11_11 = true
             ·subst c45
              have H1 : (some ((-9223372036854775808), false)) = some (r1, r2) := by rw [if_pos rfl] at H; exact H
              clear H
              have H := H1
              clear H1
              simp only [Option.some.injEq, Prod.mk.injEq] at H
              obtain ⟨rfl, rfl⟩ := H
              go_wp2
              go_ret2
              exact ⟨by first | rfl | (simp [errW_none, errW_some] <;> rfl) | (simp [*, errW_none, errW_some] <;> rfl), by repeat (first | (with_reducible first | exact HB.out | apply below_alloc | apply pw_below_drewN | apply below_drew1 | refine below_set ?_ GE134.out | refine below_set ?_ GE143.out) | exact HB.out)⟩
             ·replace c45 := Bool.eq_false_iff.mpr c45
              subst c45
              have H1 : (some (9223372036854775807, false)) = some (r1, r2) := by rw [if_neg (show ¬ (false = true) by decide)] at H; exact H
              clear H
              have H := H1
              clear H1
              simp only [Option.some.injEq, Prod.mk.injEq] at H
              obtain ⟨rfl, rfl⟩ := H
              go_wp2
              go_ret2
              exact ⟨by first | rfl | (simp [errW_none, errW_some] <;> rfl) | (simp [*, errW_none, errW_some] <;> rfl), by repeat (first | (with_reducible first | exact HB.out | apply below_alloc | apply pw_below_drewN | apply below_drew1 | refine below_set ?_ GE134.out | refine below_set ?_ GE143.out) | exact HB.out)⟩
            ·replace c44 := Bool.eq_false_iff.mpr c44
             subst c44
             have H1 : (if x11_11 = true then (some (wrap64 (IntKind.u64.wrap (-x144001_25)), true)) else (some (wrap64 (x144001_25), true))) = some (r1, r2) := by rw [if_neg (show ¬ (false = true) by decide)] at H; exact H
             clear H
             have H := H1
             clear H1
             by_cases c46 : x11_11 = true
             ·subst c46
              have H1 : (some (wrap64 (IntKind.u64.wrap (-x144001_25)), true)) = some (r1, r2) := by rw [if_pos rfl] at H; exact H
              clear H
              have H := H1
              clear H1
              simp only [Option.some.injEq, Prod.mk.injEq] at H
              obtain ⟨rfl, rfl⟩ := H
              have hnb47 := NB143_134.out
              have hnc47 := NB134_143.out
              have hcz48_0 : wc.cell? ⟨gb143, 0, none⟩ = some (.int .u64 x144000_25) := (blk_cell BK143.out 0).trans rfl
              have hcz48_1 : wc.cell? ⟨gb143, 1, none⟩ = some (.int .u64 x144001_25) := (blk_cell BK143.out 1).trans rfl
              have hfz48_0 := blk_frozen BK143.out 0
              have hfz48_1 := blk_frozen BK143.out 1
              go_wp2
              go_ret2
              exact ⟨by first | rfl | (simp [errW_none, errW_some] <;> rfl) | (simp [*, errW_none, errW_some] <;> rfl), by repeat (first | (with_reducible first | exact HB.out | apply below_alloc | apply pw_below_drewN | apply below_drew1 | refine below_set ?_ GE134.out | refine below_set ?_ GE143.out) | exact HB.out)⟩
             ·replace c46 := Bool.eq_false_iff.mpr c46
              subst c46
              have H1 : (some (wrap64 (x144001_25), true)) = some (r1, r2) := by rw [if_neg (show ¬ (false = true) by decide)] at H; exact H
              clear H
              have H := H1
              clear H1
              simp only [Option.some.injEq, Prod.mk.injEq] at H
              obtain ⟨rfl, rfl⟩ := H
              have hnb49 := NB143_134.out
              have hnc49 := NB134_143.out
              have hcz50_0 : wc.cell? ⟨gb143, 0, none⟩ = some (.int .u64 x144000_25) := (blk_cell BK143.out 0).trans rfl
              have hcz50_1 : wc.cell? ⟨gb143, 1, none⟩ = some (.int .u64 x144001_25) := (blk_cell BK143.out 1).trans rfl
              have hfz50_0 := blk_frozen BK143.out 0
              have hfz50_1 := blk_frozen BK143.out 1
              go_wp2
              go_ret2
              exact ⟨by first | rfl | (simp [errW_none, errW_some] <;> rfl) | (simp [*, errW_none, errW_some] <;> rfl), by repeat (first | (with_reducible first | exact HB.out | apply below_alloc | apply pw_below_drewN | apply below_drew1 | refine below_set ?_ GE134.out | refine below_set ?_ GE143.out) | exact HB.out)⟩
end Go.Proofs.YtphgeljglhjamaaDoor.P
end

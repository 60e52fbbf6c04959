-- PUT TOGETHER by a program of this session: of the claim's texts, what is used
import Derived.Test.YtdddpmmpfemibaaKProbePlays7
import Derived.Test.YtdddpmmpfemibaaKProbePlays8
section
namespace Go.Proofs.Ytdddpmmpfemibaa.P
open Go.RowKit Go.Proofs.YtdddpmmpfemibaaW.PrintWords Go.Proofs.YtdddpmmpfemibaaW.PrintLast Go.Proofs.YtdddpmmpfemibaaW.PrintMore
attribute [local go_sem] max2_int min2_int max_two min_two max_three min_three max_four min_four   -- for this text's walks alone
set_option linter.unusedVariables false
set_option linter.unusedSimpArgs false
def IsS49 (w0 W : World) (g : Nat) (f0 : Int) (f1 : Int) (f2 : Int) (f3 : Int) (f4 : Int) (f5 : Int) (f6 : Int) (f7 : Int) (f8 : Int) (f9 : Int) (f10 : Int) : Prop := W.heap[g]? = some (.cells #[.int .i64 f0, .int .i64 f1, .int .i64 f2, .int .i64 f3, .int .i64 f4, .int .i64 f5, .int .i64 f6, .int .i64 f7, .int .i64 f8, .int .i64 f9, .int .i64 f10] 49 (0, 0)) ∧ w0.heap.size ≤ g
theorem IsS49.grown {w0 W : World} {g : Nat} {f0 : Int} {f1 : Int} {f2 : Int} {f3 : Int} {f4 : Int} {f5 : Int} {f6 : Int} {f7 : Int} {f8 : Int} {f9 : Int} {f10 : Int} {W1 : World} {row : Option Nat} (h : IsS49 w0 W g f0 f1 f2 f3 f4 f5 f6 f7 f8 f9 f10) (hw : W.grownBy W1 row) (hne : some g ≠ row) : IsS49 w0 W1 g f0 f1 f2 f3 f4 f5 f6 f7 f8 f9 f10 := by
 obtain ⟨hb, hg⟩ := h
 exact ⟨blk_grown hb hw hne, hg⟩
theorem IsS49.kept {w0 W : World} {g : Nat} {f0 : Int} {f1 : Int} {f2 : Int} {f3 : Int} {f4 : Int} {f5 : Int} {f6 : Int} {f7 : Int} {f8 : Int} {f9 : Int} {f10 : Int} {W1 : World} {S : Nat → Prop} (h : IsS49 w0 W g f0 f1 f2 f3 f4 f5 f6 f7 f8 f9 f10) (hk : Kept W W1 S) (hne : ¬ S g) : IsS49 w0 W1 g f0 f1 f2 f3 f4 f5 f6 f7 f8 f9 f10 := by
 obtain ⟨hb, hg⟩ := h
 exact ⟨blk_kept hb hk hne, hg⟩
theorem IsS49.blk {w0 W : World} {g : Nat} {f0 : Int} {f1 : Int} {f2 : Int} {f3 : Int} {f4 : Int} {f5 : Int} {f6 : Int} {f7 : Int} {f8 : Int} {f9 : Int} {f10 : Int} (h : IsS49 w0 W g f0 f1 f2 f3 f4 f5 f6 f7 f8 f9 f10) : ∃ cs, W.heap[g]? = some (.cells cs 49 (0, 0)) := by
 obtain ⟨hb, hg⟩ := h
 exact ⟨_, hb⟩
theorem IsS49.below {w0 W : World} {g : Nat} {f0 : Int} {f1 : Int} {f2 : Int} {f3 : Int} {f4 : Int} {f5 : Int} {f6 : Int} {f7 : Int} {f8 : Int} {f9 : Int} {f10 : Int} {W1 : World} (h : IsS49 w0 W g f0 f1 f2 f3 f4 f5 f6 f7 f8 f9 f10) (hw : Below W.heap.size W W1) : IsS49 w0 W1 g f0 f1 f2 f3 f4 f5 f6 f7 f8 f9 f10 := h.grown (grown_of_below hw none) (by simp)
theorem IsS49.alloc {w0 W : World} {g : Nat} {f0 : Int} {f1 : Int} {f2 : Int} {f3 : Int} {f4 : Int} {f5 : Int} {f6 : Int} {f7 : Int} {f8 : Int} {f9 : Int} {f10 : Int} (h : IsS49 w0 W g f0 f1 f2 f3 f4 f5 f6 f7 f8 f9 f10) (o : Obj) : IsS49 w0 (W.alloc o) g f0 f1 f2 f3 f4 f5 f6 f7 f8 f9 f10 := h.below (below_alloc (Below.refl _ _) o)
theorem IsS49.drewN {w0 W : World} {g : Nat} {f0 : Int} {f1 : Int} {f2 : Int} {f3 : Int} {f4 : Int} {f5 : Int} {f6 : Int} {f7 : Int} {f8 : Int} {f9 : Int} {f10 : Int} (h : IsS49 w0 W g f0 f1 f2 f3 f4 f5 f6 f7 f8 f9 f10) (m : Nat) : IsS49 w0 (W.drewN m) g f0 f1 f2 f3 f4 f5 f6 f7 f8 f9 f10 := h
theorem IsS49.drew {w0 W : World} {g : Nat} {f0 : Int} {f1 : Int} {f2 : Int} {f3 : Int} {f4 : Int} {f5 : Int} {f6 : Int} {f7 : Int} {f8 : Int} {f9 : Int} {f10 : Int} (h : IsS49 w0 W g f0 f1 f2 f3 f4 f5 f6 f7 f8 f9 f10) : IsS49 w0 W.drew g f0 f1 f2 f3 f4 f5 f6 f7 f8 f9 f10 := h
theorem IsS49.at_ {w0 W : World} {g : Nat} {f0 : Int} {f1 : Int} {f2 : Int} {f3 : Int} {f4 : Int} {f5 : Int} {f6 : Int} {f7 : Int} {f8 : Int} {f9 : Int} {f10 : Int} {w' : World} {m : Nat} (hq : W.drewN m = w') (h : IsS49 w0 W g f0 f1 f2 f3 f4 f5 f6 f7 f8 f9 f10) : IsS49 w0 w' g f0 f1 f2 f3 f4 f5 f6 f7 f8 f9 f10 := by subst hq; exact IsS49.drewN h m
theorem IsS49.apart {w0 W : World} {g : Nat} {f0 : Int} {f1 : Int} {f2 : Int} {f3 : Int} {f4 : Int} {f5 : Int} {f6 : Int} {f7 : Int} {f8 : Int} {f9 : Int} {f10 : Int} {α : Type} {d : Kd α} {e : Nat} {base : Nat} {ok : Nat → Prop} {v : Value} {xs : List α} (h : IsS49 w0 W g f0 f1 f2 f3 f4 f5 f6 f7 f8 f9 f10) (ho : d.R e W base ok v xs) (ht : ∀ q, q ∈ e :: d.E → q ≠ 49) : d.R e W base (fun k => ok k ∧ k ≠ g) v xs := by
 obtain ⟨hb, hg⟩ := h
 exact Kd.R_types ho hb ht
theorem IsS49.lt {w0 W : World} {g : Nat} {f0 : Int} {f1 : Int} {f2 : Int} {f3 : Int} {f4 : Int} {f5 : Int} {f6 : Int} {f7 : Int} {f8 : Int} {f9 : Int} {f10 : Int} (h : IsS49 w0 W g f0 f1 f2 f3 f4 f5 f6 f7 f8 f9 f10) : g < W.heap.size := by
 obtain ⟨hb, hg⟩ := h
 exact blk_lt hb
theorem IsS49.ge {w0 W : World} {g : Nat} {f0 : Int} {f1 : Int} {f2 : Int} {f3 : Int} {f4 : Int} {f5 : Int} {f6 : Int} {f7 : Int} {f8 : Int} {f9 : Int} {f10 : Int} (h : IsS49 w0 W g f0 f1 f2 f3 f4 f5 f6 f7 f8 f9 f10) : w0.heap.size ≤ g := by
 obtain ⟨hb, hg⟩ := h
 exact hg
theorem IsS49.cell_0 {w0 W : World} {g : Nat} {f0 : Int} {f1 : Int} {f2 : Int} {f3 : Int} {f4 : Int} {f5 : Int} {f6 : Int} {f7 : Int} {f8 : Int} {f9 : Int} {f10 : Int} (h : IsS49 w0 W g f0 f1 f2 f3 f4 f5 f6 f7 f8 f9 f10) : W.cell? ⟨g, 0, none⟩ = some (.int .i64 f0) := by
 obtain ⟨hb, hg⟩ := h
 exact (blk_cell hb 0).trans rfl
theorem IsS49.cell_1 {w0 W : World} {g : Nat} {f0 : Int} {f1 : Int} {f2 : Int} {f3 : Int} {f4 : Int} {f5 : Int} {f6 : Int} {f7 : Int} {f8 : Int} {f9 : Int} {f10 : Int} (h : IsS49 w0 W g f0 f1 f2 f3 f4 f5 f6 f7 f8 f9 f10) : W.cell? ⟨g, 1, none⟩ = some (.int .i64 f1) := by
 obtain ⟨hb, hg⟩ := h
 exact (blk_cell hb 1).trans rfl
theorem IsS49.cell_2 {w0 W : World} {g : Nat} {f0 : Int} {f1 : Int} {f2 : Int} {f3 : Int} {f4 : Int} {f5 : Int} {f6 : Int} {f7 : Int} {f8 : Int} {f9 : Int} {f10 : Int} (h : IsS49 w0 W g f0 f1 f2 f3 f4 f5 f6 f7 f8 f9 f10) : W.cell? ⟨g, 2, none⟩ = some (.int .i64 f2) := by
 obtain ⟨hb, hg⟩ := h
 exact (blk_cell hb 2).trans rfl
theorem IsS49.cell_3 {w0 W : World} {g : Nat} {f0 : Int} {f1 : Int} {f2 : Int} {f3 : Int} {f4 : Int} {f5 : Int} {f6 : Int} {f7 : Int} {f8 : Int} {f9 : Int} {f10 : Int} (h : IsS49 w0 W g f0 f1 f2 f3 f4 f5 f6 f7 f8 f9 f10) : W.cell? ⟨g, 3, none⟩ = some (.int .i64 f3) := by
 obtain ⟨hb, hg⟩ := h
 exact (blk_cell hb 3).trans rfl
theorem IsS49.cell_4 {w0 W : World} {g : Nat} {f0 : Int} {f1 : Int} {f2 : Int} {f3 : Int} {f4 : Int} {f5 : Int} {f6 : Int} {f7 : Int} {f8 : Int} {f9 : Int} {f10 : Int} (h : IsS49 w0 W g f0 f1 f2 f3 f4 f5 f6 f7 f8 f9 f10) : W.cell? ⟨g, 4, none⟩ = some (.int .i64 f4) := by
 obtain ⟨hb, hg⟩ := h
 exact (blk_cell hb 4).trans rfl
theorem IsS49.cell_5 {w0 W : World} {g : Nat} {f0 : Int} {f1 : Int} {f2 : Int} {f3 : Int} {f4 : Int} {f5 : Int} {f6 : Int} {f7 : Int} {f8 : Int} {f9 : Int} {f10 : Int} (h : IsS49 w0 W g f0 f1 f2 f3 f4 f5 f6 f7 f8 f9 f10) : W.cell? ⟨g, 5, none⟩ = some (.int .i64 f5) := by
 obtain ⟨hb, hg⟩ := h
 exact (blk_cell hb 5).trans rfl
theorem IsS49.cell_6 {w0 W : World} {g : Nat} {f0 : Int} {f1 : Int} {f2 : Int} {f3 : Int} {f4 : Int} {f5 : Int} {f6 : Int} {f7 : Int} {f8 : Int} {f9 : Int} {f10 : Int} (h : IsS49 w0 W g f0 f1 f2 f3 f4 f5 f6 f7 f8 f9 f10) : W.cell? ⟨g, 6, none⟩ = some (.int .i64 f6) := by
 obtain ⟨hb, hg⟩ := h
 exact (blk_cell hb 6).trans rfl
theorem IsS49.cell_7 {w0 W : World} {g : Nat} {f0 : Int} {f1 : Int} {f2 : Int} {f3 : Int} {f4 : Int} {f5 : Int} {f6 : Int} {f7 : Int} {f8 : Int} {f9 : Int} {f10 : Int} (h : IsS49 w0 W g f0 f1 f2 f3 f4 f5 f6 f7 f8 f9 f10) : W.cell? ⟨g, 7, none⟩ = some (.int .i64 f7) := by
 obtain ⟨hb, hg⟩ := h
 exact (blk_cell hb 7).trans rfl
theorem IsS49.cell_8 {w0 W : World} {g : Nat} {f0 : Int} {f1 : Int} {f2 : Int} {f3 : Int} {f4 : Int} {f5 : Int} {f6 : Int} {f7 : Int} {f8 : Int} {f9 : Int} {f10 : Int} (h : IsS49 w0 W g f0 f1 f2 f3 f4 f5 f6 f7 f8 f9 f10) : W.cell? ⟨g, 8, none⟩ = some (.int .i64 f8) := by
 obtain ⟨hb, hg⟩ := h
 exact (blk_cell hb 8).trans rfl
theorem IsS49.cell_9 {w0 W : World} {g : Nat} {f0 : Int} {f1 : Int} {f2 : Int} {f3 : Int} {f4 : Int} {f5 : Int} {f6 : Int} {f7 : Int} {f8 : Int} {f9 : Int} {f10 : Int} (h : IsS49 w0 W g f0 f1 f2 f3 f4 f5 f6 f7 f8 f9 f10) : W.cell? ⟨g, 9, none⟩ = some (.int .i64 f9) := by
 obtain ⟨hb, hg⟩ := h
 exact (blk_cell hb 9).trans rfl
theorem IsS49.cell_10 {w0 W : World} {g : Nat} {f0 : Int} {f1 : Int} {f2 : Int} {f3 : Int} {f4 : Int} {f5 : Int} {f6 : Int} {f7 : Int} {f8 : Int} {f9 : Int} {f10 : Int} (h : IsS49 w0 W g f0 f1 f2 f3 f4 f5 f6 f7 f8 f9 f10) : W.cell? ⟨g, 10, none⟩ = some (.int .i64 f10) := by
 obtain ⟨hb, hg⟩ := h
 exact (blk_cell hb 10).trans rfl
theorem IsS49.rebase {w0 W : World} {g : Nat} {f0 : Int} {f1 : Int} {f2 : Int} {f3 : Int} {f4 : Int} {f5 : Int} {f6 : Int} {f7 : Int} {f8 : Int} {f9 : Int} {f10 : Int} {w1 : World} (h : IsS49 w1 W g f0 f1 f2 f3 f4 f5 f6 f7 f8 f9 f10) (hl : w0.heap.size ≤ w1.heap.size) : IsS49 w0 W g f0 f1 f2 f3 f4 f5 f6 f7 f8 f9 f10 := by
 obtain ⟨hb, hg⟩ := h
 exact ⟨hb, Nat.le_trans hl hg⟩
theorem IsS49.set_0 {w0 W : World} {g : Nat} {f0 : Int} {f1 : Int} {f2 : Int} {f3 : Int} {f4 : Int} {f5 : Int} {f6 : Int} {f7 : Int} {f8 : Int} {f9 : Int} {f10 : Int} (h : IsS49 w0 W g f0 f1 f2 f3 f4 f5 f6 f7 f8 f9 f10) (x : Int) : IsS49 w0 (W.setCell ⟨g, 0, none⟩ (.int .i64 x)) g x f1 f2 f3 f4 f5 f6 f7 f8 f9 f10 := by
 obtain ⟨hb, hg⟩ := h
 exact ⟨by simpa using blk_set hb 0 (.int .i64 x), hg⟩
theorem IsS49.set_1 {w0 W : World} {g : Nat} {f0 : Int} {f1 : Int} {f2 : Int} {f3 : Int} {f4 : Int} {f5 : Int} {f6 : Int} {f7 : Int} {f8 : Int} {f9 : Int} {f10 : Int} (h : IsS49 w0 W g f0 f1 f2 f3 f4 f5 f6 f7 f8 f9 f10) (x : Int) : IsS49 w0 (W.setCell ⟨g, 1, none⟩ (.int .i64 x)) g f0 x f2 f3 f4 f5 f6 f7 f8 f9 f10 := by
 obtain ⟨hb, hg⟩ := h
 exact ⟨by simpa using blk_set hb 1 (.int .i64 x), hg⟩
theorem IsS49.set_2 {w0 W : World} {g : Nat} {f0 : Int} {f1 : Int} {f2 : Int} {f3 : Int} {f4 : Int} {f5 : Int} {f6 : Int} {f7 : Int} {f8 : Int} {f9 : Int} {f10 : Int} (h : IsS49 w0 W g f0 f1 f2 f3 f4 f5 f6 f7 f8 f9 f10) (x : Int) : IsS49 w0 (W.setCell ⟨g, 2, none⟩ (.int .i64 x)) g f0 f1 x f3 f4 f5 f6 f7 f8 f9 f10 := by
 obtain ⟨hb, hg⟩ := h
 exact ⟨by simpa using blk_set hb 2 (.int .i64 x), hg⟩
theorem IsS49.set_3 {w0 W : World} {g : Nat} {f0 : Int} {f1 : Int} {f2 : Int} {f3 : Int} {f4 : Int} {f5 : Int} {f6 : Int} {f7 : Int} {f8 : Int} {f9 : Int} {f10 : Int} (h : IsS49 w0 W g f0 f1 f2 f3 f4 f5 f6 f7 f8 f9 f10) (x : Int) : IsS49 w0 (W.setCell ⟨g, 3, none⟩ (.int .i64 x)) g f0 f1 f2 x f4 f5 f6 f7 f8 f9 f10 := by
 obtain ⟨hb, hg⟩ := h
 exact ⟨by simpa using blk_set hb 3 (.int .i64 x), hg⟩
theorem IsS49.set_4 {w0 W : World} {g : Nat} {f0 : Int} {f1 : Int} {f2 : Int} {f3 : Int} {f4 : Int} {f5 : Int} {f6 : Int} {f7 : Int} {f8 : Int} {f9 : Int} {f10 : Int} (h : IsS49 w0 W g f0 f1 f2 f3 f4 f5 f6 f7 f8 f9 f10) (x : Int) : IsS49 w0 (W.setCell ⟨g, 4, none⟩ (.int .i64 x)) g f0 f1 f2 f3 x f5 f6 f7 f8 f9 f10 := by
 obtain ⟨hb, hg⟩ := h
 exact ⟨by simpa using blk_set hb 4 (.int .i64 x), hg⟩
theorem IsS49.set_5 {w0 W : World} {g : Nat} {f0 : Int} {f1 : Int} {f2 : Int} {f3 : Int} {f4 : Int} {f5 : Int} {f6 : Int} {f7 : Int} {f8 : Int} {f9 : Int} {f10 : Int} (h : IsS49 w0 W g f0 f1 f2 f3 f4 f5 f6 f7 f8 f9 f10) (x : Int) : IsS49 w0 (W.setCell ⟨g, 5, none⟩ (.int .i64 x)) g f0 f1 f2 f3 f4 x f6 f7 f8 f9 f10 := by
 obtain ⟨hb, hg⟩ := h
 exact ⟨by simpa using blk_set hb 5 (.int .i64 x), hg⟩
theorem IsS49.set_6 {w0 W : World} {g : Nat} {f0 : Int} {f1 : Int} {f2 : Int} {f3 : Int} {f4 : Int} {f5 : Int} {f6 : Int} {f7 : Int} {f8 : Int} {f9 : Int} {f10 : Int} (h : IsS49 w0 W g f0 f1 f2 f3 f4 f5 f6 f7 f8 f9 f10) (x : Int) : IsS49 w0 (W.setCell ⟨g, 6, none⟩ (.int .i64 x)) g f0 f1 f2 f3 f4 f5 x f7 f8 f9 f10 := by
 obtain ⟨hb, hg⟩ := h
 exact ⟨by simpa using blk_set hb 6 (.int .i64 x), hg⟩
theorem IsS49.set_7 {w0 W : World} {g : Nat} {f0 : Int} {f1 : Int} {f2 : Int} {f3 : Int} {f4 : Int} {f5 : Int} {f6 : Int} {f7 : Int} {f8 : Int} {f9 : Int} {f10 : Int} (h : IsS49 w0 W g f0 f1 f2 f3 f4 f5 f6 f7 f8 f9 f10) (x : Int) : IsS49 w0 (W.setCell ⟨g, 7, none⟩ (.int .i64 x)) g f0 f1 f2 f3 f4 f5 f6 x f8 f9 f10 := by
 obtain ⟨hb, hg⟩ := h
 exact ⟨by simpa using blk_set hb 7 (.int .i64 x), hg⟩
theorem IsS49.set_8 {w0 W : World} {g : Nat} {f0 : Int} {f1 : Int} {f2 : Int} {f3 : Int} {f4 : Int} {f5 : Int} {f6 : Int} {f7 : Int} {f8 : Int} {f9 : Int} {f10 : Int} (h : IsS49 w0 W g f0 f1 f2 f3 f4 f5 f6 f7 f8 f9 f10) (x : Int) : IsS49 w0 (W.setCell ⟨g, 8, none⟩ (.int .i64 x)) g f0 f1 f2 f3 f4 f5 f6 f7 x f9 f10 := by
 obtain ⟨hb, hg⟩ := h
 exact ⟨by simpa using blk_set hb 8 (.int .i64 x), hg⟩
theorem IsS49.set_9 {w0 W : World} {g : Nat} {f0 : Int} {f1 : Int} {f2 : Int} {f3 : Int} {f4 : Int} {f5 : Int} {f6 : Int} {f7 : Int} {f8 : Int} {f9 : Int} {f10 : Int} (h : IsS49 w0 W g f0 f1 f2 f3 f4 f5 f6 f7 f8 f9 f10) (x : Int) : IsS49 w0 (W.setCell ⟨g, 9, none⟩ (.int .i64 x)) g f0 f1 f2 f3 f4 f5 f6 f7 f8 x f10 := by
 obtain ⟨hb, hg⟩ := h
 exact ⟨by simpa using blk_set hb 9 (.int .i64 x), hg⟩
theorem IsS49.set_10 {w0 W : World} {g : Nat} {f0 : Int} {f1 : Int} {f2 : Int} {f3 : Int} {f4 : Int} {f5 : Int} {f6 : Int} {f7 : Int} {f8 : Int} {f9 : Int} {f10 : Int} (h : IsS49 w0 W g f0 f1 f2 f3 f4 f5 f6 f7 f8 f9 f10) (x : Int) : IsS49 w0 (W.setCell ⟨g, 10, none⟩ (.int .i64 x)) g f0 f1 f2 f3 f4 f5 f6 f7 f8 f9 x := by
 obtain ⟨hb, hg⟩ := h
 exact ⟨by simpa using blk_set hb 10 (.int .i64 x), hg⟩
def probe_cluster_result.j0 : Nat → Bool → Int → Int → Int → Int → Int → Int → Int → Int → Int → Int → Int → Option (Int × Int × Int × Int × Int × Int × Int × Int × Int × Int × Int × Int)
 | 0, _, _, _, _, _, _, _, _, _, _, _, _ => none
 | k + 1, x41, x1000, x1001, x1002, x1003, x1004, x1005, x1006, x1007, x1008, x1009, x1010 => if x41 = true then (some (0, x1000, x1001, x1002, x1003, x1004, x1005, x1006, x1007, x1008, x1009, x1010)) else ((units_Rate.f (wrap64 (x1004 - x1007)) (wrap64 (x1006 - x1005))).bind fun t138 => ((units_Rate.f (wrap64 (x1004 - x1010)) (wrap64 (x1009 - x1008))).bind fun t139 => (some (mn t138 t139, x1000, x1001, x1002, x1003, x1004, x1005, x1006, x1007, x1008, x1009, x1010))))
def probe_cluster_result.f (k : Nat) (s0_0 : Int) (s0_1 : Int) (s0_2 : Int) (s0_3 : Int) (s0_4 : Int) (s0_5 : Int) (s0_6 : Int) (s0_7 : Int) (s0_8 : Int) (s0_9 : Int) (s0_10 : Int) : Option (Int × Int × Int × Int × Int × Int × Int × Int × Int × Int × Int × Int) := if s0_3 < 4 then (probe_cluster_result.j0 k true s0_0 s0_1 s0_2 s0_3 s0_4 s0_5 s0_6 s0_7 s0_8 s0_9 s0_10) else (if s0_4 < (wrap64 (Int.tdiv s0_1 2)) then (probe_cluster_result.j0 k true s0_0 s0_1 s0_2 s0_3 s0_4 s0_5 s0_6 s0_7 s0_8 s0_9 s0_10) else (if s0_6 ≤ s0_5 then (probe_cluster_result.j0 k true s0_0 s0_1 s0_2 s0_3 s0_4 s0_5 s0_6 s0_7 s0_8 s0_9 s0_10) else (probe_cluster_result.j0 k (decide (s0_9 ≤ s0_8)) s0_0 s0_1 s0_2 s0_3 s0_4 s0_5 s0_6 s0_7 s0_8 s0_9 s0_10)))
theorem probe_cluster_result.mono_l : ∀ k, (∀ y0 y1 y2 y3 y4 y5 y6 y7 y8 y9 y10 y11, LeO (probe_cluster_result.j0 k y0 y1 y2 y3 y4 y5 y6 y7 y8 y9 y10 y11) (probe_cluster_result.j0 (k + 1) y0 y1 y2 y3 y4 y5 y6 y7 y8 y9 y10 y11))
 | 0 => fun _ _ _ _ _ _ _ _ _ _ _ _ r h => by simp [probe_cluster_result.j0] at h
 | k + 1 => by
  have ih0 := probe_cluster_result.mono_l k
  ·intro y0 y1 y2 y3 y4 y5 y6 y7 y8 y9 y10 y11
   unfold probe_cluster_result.j0
   repeat' first
   | (with_reducible exact ih0 _ _ _ _ _ _ _ _ _ _ _ _)
   | (with_reducible exact LeO.refl _)
   | (with_reducible exact LeO.none _)
   | (with_reducible refine LeO.ite ?_ ?_)
   | (with_reducible refine LeO.bind ?_ (fun _ => ?_))
   | exact ih0 _ _ _ _ _ _ _ _ _ _ _ _
   | exact LeO.none _
   | refine LeO.ite ?_ ?_
   | refine LeO.bind ?_ (fun _ => ?_)
theorem probe_cluster_result.mono : ∀ a0 a1 a2 a3 a4 a5 a6 a7 a8 a9 a10 k, LeO (probe_cluster_result.f k a0 a1 a2 a3 a4 a5 a6 a7 a8 a9 a10) (probe_cluster_result.f (k + 1) a0 a1 a2 a3 a4 a5 a6 a7 a8 a9 a10) := by
 intro a0 a1 a2 a3 a4 a5 a6 a7 a8 a9 a10 k
 have ih0 := probe_cluster_result.mono_l k
 unfold probe_cluster_result.f
 repeat' first
   | (with_reducible exact ih0 _ _ _ _ _ _ _ _ _ _ _ _)
   | (with_reducible exact LeO.refl _)
   | (with_reducible exact LeO.none _)
   | (with_reducible refine LeO.ite ?_ ?_)
   | (with_reducible refine LeO.bind ?_ (fun _ => ?_))
   | exact ih0 _ _ _ _ _ _ _ _ _ _ _ _
   | exact LeO.none _
   | refine LeO.ite ?_ ?_
   | refine LeO.bind ?_ (fun _ => ?_)
def probe_cluster_result.T1 : Bool × List (List Nat × List Nat) := (true, [([], []), ([0], [0]), ([1], [1]), ([2], [2]), ([3], [3]), ([4], [4]), ([5], [5]), ([6, 5], [5, 6]), ([7, 5], [5, 7]), ([8, 5], [5, 8]), ([5], [5]), ([10, 5], [5, 10]), ([11, 5], [5, 11]), ([12, 5], [5, 12]), ([13, 5], [5, 13]), ([9, 14, 5], [5, 9, 14]), ([5, 15], [5, 15]), ([16, 5], [16]), ([17], [17]), ([18, 17], [17, 18]), ([19, 17], [17, 19]), ([20, 17], [17, 20]), ([17], [17]), ([22, 17], [17, 22]), ([23, 17], [17, 23]), ([24, 17], [17, 24]), ([21, 25, 17], [17, 21, 25]), ([17, 26], [17, 26]), ([27, 17], [27]), ([28], [28]), ([29, 28], [28, 29]), ([30, 28], [28, 30]), ([31, 28], [28, 31]), ([28], [28]), ([33, 28], [28, 33]), ([34, 28], [28, 34]), ([35, 28], [28, 35]), ([32, 36, 28], [28, 32, 36]), ([28, 37], [28, 37])])
def probe_cluster_result.B1 : List Nat := [0, 1, 3, 7, 15, 31, 63, 127, 255, 511, 63, 1087, 3135, 7231, 15423, 32767, 65535, 131071, 262143, 524287, 1048575, 2097151, 262143, 4456447, 12845055, 29622271, 67108863, 134217727, 268435455, 536870911, 1073741823, 2147483647, 4294967295, 536870911, 9126805503, 26306674687, 60666413055, 137438953471, 274877906943]
theorem probe_cluster_result.tab1 : rtab .any (opsOf Try.f22 1) = probe_cluster_result.T1 := by kernel_rfl
theorem probe_cluster_result.bits1 : waitsOk probe_cluster_result.T1.2 probe_cluster_result.B1 = true := by kernel_rfl
def probe_cluster_result.T3 : Bool × List (List Nat × List Nat) := (true, [([], []), ([0], [0]), ([1], [1]), ([2], [2]), ([], []), ([4], [4]), ([5], [5]), ([6], [6]), ([3, 7], [3, 7]), ([], []), ([9], [9]), ([10], [10]), ([11], [11]), ([], []), ([13], [13]), ([14], [14]), ([15], [15]), ([12, 16], [12, 16]), ([8, 17], [8, 17]), ([], []), ([19], [19]), ([20], [20]), ([21], [21]), ([], []), ([23], [23]), ([24], [24]), ([25], [25]), ([22, 26], [22, 26]), ([], []), ([28], [28]), ([29], [29]), ([30], [30]), ([], []), ([32], [32]), ([33], [33]), ([34], [34]), ([31, 35], [31, 35]), ([27, 36, 18], [27, 36]), ([18, 37], [18, 37]), ([38, 37, 0, 1, 2, 3, 4, 5, 6, 7, 8, 9, 10, 11, 12, 13, 14, 15, 16, 17, 18, 19, 20, 21, 22, 23, 24, 25, 26, 27, 28, 29, 30, 31, 32, 33, 34, 35, 36, 37, 38], [38])])
def probe_cluster_result.B3 : List Nat := [0, 1, 3, 7, 0, 16, 48, 112, 255, 0, 512, 1536, 3584, 0, 8192, 24576, 57344, 130560, 262143, 0, 524288, 1572864, 3670016, 0, 8388608, 25165824, 58720256, 133693440, 0, 268435456, 805306368, 1879048192, 0, 4294967296, 12884901888, 30064771072, 68451041280, 137438953471, 274877906943, 549755813887]
theorem probe_cluster_result.tab3 : rtab .any (opsOf Try.f22 3) = probe_cluster_result.T3 := by kernel_rfl
theorem probe_cluster_result.bits3 : waitsOk probe_cluster_result.T3.2 probe_cluster_result.B3 = true := by kernel_rfl
set_option maxHeartbeats 8000000 in
set_option maxRecDepth 100000 in
theorem probe_cluster_result.calls (k : Nat) (g : Nat) (s0_0 : Int) (s0_1 : Int) (s0_2 : Int) (s0_3 : Int) (s0_4 : Int) (s0_5 : Int) (s0_6 : Int) (s0_7 : Int) (s0_8 : Int) (s0_9 : Int) (s0_10 : Int) (r1 : Int) (r2 : Int) (r3 : Int) (r4 : Int) (r5 : Int) (r6 : Int) (r7 : Int) (r8 : Int) (r9 : Int) (r10 : Int) (r11 : Int) (r12 : Int) (w0 w : World) (hI : IsS49 w0 w g s0_0 s0_1 s0_2 s0_3 s0_4 s0_5 s0_6 s0_7 s0_8 s0_9 s0_10) (hB : Below w0.heap.size w0 w) (h : probe_cluster_result.f k s0_0 s0_1 s0_2 s0_3 s0_4 s0_5 s0_6 s0_7 s0_8 s0_9 s0_10 = some (r1, r2, r3, r4, r5, r6, r7, r8, r9, r10, r11, r12)) :
  Calls Try.prog 22 #[.pointer (some ⟨g, 0, none⟩)] w fun e w' => e = .returned (.int .i64 r1) ∧ IsS49 w0 w' g r2 r3 r4 r5 r6 r7 r8 r9 r10 r11 r12 ∧ Below w0.heap.size w0 w' ∧ KeepBut w w' g none := by
 have HI0 := Aside0.mk hI
 have HK := Aside0.mk (KeepBut.refl w g none)
 have HL := Aside0.mk hB.size
 clear hI
 have HW0 := Aside0.mk hB.size
 have HB := Aside0.mk hB
 clear hB
 have H : (if s0_3 < 4 then (probe_cluster_result.j0 k true s0_0 s0_1 s0_2 s0_3 s0_4 s0_5 s0_6 s0_7 s0_8 s0_9 s0_10) else (if s0_4 < (wrap64 (Int.tdiv s0_1 2)) then (probe_cluster_result.j0 k true s0_0 s0_1 s0_2 s0_3 s0_4 s0_5 s0_6 s0_7 s0_8 s0_9 s0_10) else (if s0_6 ≤ s0_5 then (probe_cluster_result.j0 k true s0_0 s0_1 s0_2 s0_3 s0_4 s0_5 s0_6 s0_7 s0_8 s0_9 s0_10) else (probe_cluster_result.j0 k (decide (s0_9 ≤ s0_8)) s0_0 s0_1 s0_2 s0_3 s0_4 s0_5 s0_6 s0_7 s0_8 s0_9 s0_10)))) = some (r1, r2, r3, r4, r5, r6, r7, r8, r9, r10, r11, r12) := h
 clear h
 have HC2 := Aside0.mk H
 clear H
 go_enter Try.func22, Try.ntmps22
 go_upto_region 1 with (fail)
 go_cut [41] (fun v41 wc => ∃ (kq : Nat) (x41_1 : Bool), v41 = .bool x41_1 ∧ Aside0 (probe_cluster_result.j0 kq x41_1 s0_0 s0_1 s0_2 s0_3 s0_4 s0_5 s0_6 s0_7 s0_8 s0_9 s0_10 = some (r1, r2, r3, r4, r5, r6, r7, r8, r9, r10, r11, r12)) ∧ Aside0 (kq ≤ k) ∧ Aside0 (IsS49 w0 wc g s0_0 s0_1 s0_2 s0_3 s0_4 s0_5 s0_6 s0_7 s0_8 s0_9 s0_10) ∧ Aside0 (KeepBut w wc g none) ∧ Aside0 (Below w0.heap.size w0 wc))
 case first =>
  have H := HC2.out
  clear HC2
  by_cases c3 : s0_3 < 4
  ·rw [if_pos c3] at H
   have c3b0 : decide (s0_3 < 4) = true := decide_eq_true c3
   clear c3
   (first | rw [c3b0] | (simp only [i64_w, i32_w]; rw [c3b0]) | skip)
   have H' := Aside0.mk H
   clear H
   try go_wp2
   have n0_ := Aside0.mk (IsS49.drew HI0.out)
   have n1_ := Aside0.mk (keep_drew HK.out)
   have n2_ := Aside0.mk (below_drew1 HB.out)
   clear HI0
   clear HK
   clear HB
   have HI0 := n0_
   have HK := n1_
   have HB := n2_
   clear n0_ n1_ n2_
   refine start_ (n := 39) (S := fun w' => w'.cell? ⟨g, 0, none⟩ = some (.int .i64 s0_0) ∧ w'.cell? ⟨g, 1, none⟩ = some (.int .i64 s0_1) ∧ w'.cell? ⟨g, 2, none⟩ = some (.int .i64 s0_2) ∧ w'.cell? ⟨g, 3, none⟩ = some (.int .i64 s0_3) ∧ w'.cell? ⟨g, 4, none⟩ = some (.int .i64 s0_4) ∧ w'.cell? ⟨g, 5, none⟩ = some (.int .i64 s0_5) ∧ w'.cell? ⟨g, 6, none⟩ = some (.int .i64 s0_6) ∧ w'.cell? ⟨g, 7, none⟩ = some (.int .i64 s0_7) ∧ w'.cell? ⟨g, 8, none⟩ = some (.int .i64 s0_8) ∧ w'.cell? ⟨g, 9, none⟩ = some (.int .i64 s0_9) ∧ w'.cell? ⟨g, 10, none⟩ = some (.int .i64 s0_10)) (ds := []) #[false, false, false, false, false, false, false, false, false, false, false, false, false, false, false, false, false, false, false, false, false, false, false, false, false, false, false, false, false, false, false, false, false, false, false, false, false, false, false] (by kernel_rfl) rfl rfl ⟨(IsS49.cell_0 HI0.out), (IsS49.cell_1 HI0.out), (IsS49.cell_2 HI0.out), (IsS49.cell_3 HI0.out), (IsS49.cell_4 HI0.out), (IsS49.cell_5 HI0.out), (IsS49.cell_6 HI0.out), (IsS49.cell_7 HI0.out), (IsS49.cell_8 HI0.out), (IsS49.cell_9 HI0.out), (IsS49.cell_10 HI0.out)⟩ (fun hHeld => ?_); refine with_tabW probe_cluster_result.tab1 probe_cluster_result.bits1 (fun HT_ HW_ => ?_)
   generalize w.drew = w4 at HI0 HK HB hHeld ⊢
   refine pure_ (i := 0) (N := some 3) (v := ?_) (a' := ?_) #[true, false, false, false, false, false, false, false, false, false, false, false, false, false, false, false, false, false, false, false, false, false, false, false, false, false, false, false, false, false, false, false, false, false, false, false, false, false, false] rfl rfl (any_of HT_.out (by kernel_rfl)) (fun _ _ _ h => h) (Or.inl ⟨by rfl, ?_⟩) ?_ ?_
   rotate_left
   ·intro w'
    go_simp
    with_reducible rfl
   rotate_left
   ·simp only [Act.put, List.setIfInBounds_toArray, List.set_cons_zero, List.set_cons_succ, i64_w, i32_w]
    rfl
   refine pure_ (i := 1) (N := some 4) (v := ?_) (a' := ?_) #[true, true, false, false, false, false, false, false, false, false, false, false, false, false, false, false, false, false, false, false, false, false, false, false, false, false, false, false, false, false, false, false, false, false, false, false, false, false, false] rfl rfl (any_of HT_.out (by kernel_rfl)) (fun _ _ _ h => h) (Or.inl ⟨by rfl, ?_⟩) ?_ ?_
   rotate_left
   ·intro w'
    go_simp
    with_reducible rfl
   rotate_left
   ·simp only [Act.put, List.setIfInBounds_toArray, List.set_cons_zero, List.set_cons_succ, i64_w, i32_w]
    rfl
   refine pure_ (i := 2) (N := some 5) (v := ?_) (a' := ?_) #[true, true, true, false, false, false, false, false, false, false, false, false, false, false, false, false, false, false, false, false, false, false, false, false, false, false, false, false, false, false, false, false, false, false, false, false, false, false, false] rfl rfl (any_of HT_.out (by kernel_rfl)) (fun _ _ _ h => h) (Or.inl ⟨by rfl, ?_⟩) ?_ ?_
   rotate_left
   ·intro w'
    go_simp
    with_reducible rfl
   rotate_left
   ·simp only [Act.put, List.setIfInBounds_toArray, List.set_cons_zero, List.set_cons_succ, i64_w, i32_w]
    rfl
   refine take_ (i := 3) (N := some 6) (v := ?_) (a' := ?_) #[true, true, true, true, false, false, false, false, false, false, false, false, false, false, false, false, false, false, false, false, false, false, false, false, false, false, false, false, false, false, false, false, false, false, false, false, false, false, false] rfl rfl (take_ofW HT_.out HW_.out (by kernel_rfl)) (fun _ _ _ h => h) (Or.inl ⟨by rfl, ?_⟩) hHeld ?_ ?_
   rotate_left
   ·rintro w' ⟨s0, s1, s2, s3, s4, s5, s6, s7, s8, s9, s10⟩
    go_simp
    with_reducible rfl
   rotate_left
   ·simp only [Act.put, List.setIfInBounds_toArray, List.set_cons_zero, List.set_cons_succ, i64_w, i32_w]
    rfl
   refine pure_ (i := 4) (N := some 7) (v := ?_) (a' := ?_) #[true, true, true, true, true, false, false, false, false, false, false, false, false, false, false, false, false, false, false, false, false, false, false, false, false, false, false, false, false, false, false, false, false, false, false, false, false, false, false] rfl rfl (any_of HT_.out (by kernel_rfl)) (fun _ _ _ h => h) (Or.inl ⟨by rfl, ?_⟩) ?_ ?_
   rotate_left
   ·intro w'
    go_simp
    with_reducible rfl
   rotate_left
   ·simp only [Act.put, List.setIfInBounds_toArray, List.set_cons_zero, List.set_cons_succ, i64_w, i32_w]
    rfl
   refine pure_ (i := 5) (N := some 8) (v := ?_) (a' := ?_) #[true, true, true, true, true, true, false, false, false, false, false, false, false, false, false, false, false, false, false, false, false, false, false, false, false, false, false, false, false, false, false, false, false, false, false, false, false, false, false] rfl rfl (any_of HT_.out (by kernel_rfl)) (fun _ _ _ h => h) (Or.inl ⟨by rfl, ?_⟩) ?_ ?_
   rotate_left
   ·intro w'
    go_simp
    with_reducible rfl
   rotate_left
   ·simp only [Act.put, List.setIfInBounds_toArray, List.set_cons_zero, List.set_cons_succ, i64_w, i32_w]
    rfl
   refine pure_ (i := 6) (N := some 9) (v := undef) (a' := ?_) #[true, true, true, true, true, true, true, false, false, false, false, false, false, false, false, false, false, false, false, false, false, false, false, false, false, false, false, false, false, false, false, false, false, false, false, false, false, false, false] rfl rfl (any_of HT_.out (by kernel_rfl)) (fun _ _ _ h => h) (Or.inr ⟨by rfl, rfl⟩) ?_ ?_
   rotate_left
   ·simp only [Act.put, List.setIfInBounds_toArray, List.set_cons_zero, List.set_cons_succ, i64_w, i32_w]
    rfl
   refine pure_ (i := 7) (N := some 10) (v := undef) (a' := ?_) #[true, true, true, true, true, true, true, true, false, false, false, false, false, false, false, false, false, false, false, false, false, false, false, false, false, false, false, false, false, false, false, false, false, false, false, false, false, false, false] rfl rfl (any_of HT_.out (by kernel_rfl)) (fun _ _ _ h => h) (Or.inr ⟨by rfl, rfl⟩) ?_ ?_
   rotate_left
   ·simp only [Act.put, List.setIfInBounds_toArray, List.set_cons_zero, List.set_cons_succ, i64_w, i32_w]
    rfl
   refine pure_ (i := 8) (N := some 11) (v := undef) (a' := ?_) #[true, true, true, true, true, true, true, true, true, false, false, false, false, false, false, false, false, false, false, false, false, false, false, false, false, false, false, false, false, false, false, false, false, false, false, false, false, false, false] rfl rfl (any_of HT_.out (by kernel_rfl)) (fun _ _ _ h => h) (Or.inr ⟨by rfl, rfl⟩) ?_ ?_
   rotate_left
   ·simp only [Act.put, List.setIfInBounds_toArray, List.set_cons_zero, List.set_cons_succ, i64_w, i32_w]
    rfl
   refine pure_ (i := 9) (N := some 12) (v := undef) (a' := ?_) #[true, true, true, true, true, true, true, true, true, true, false, false, false, false, false, false, false, false, false, false, false, false, false, false, false, false, false, false, false, false, false, false, false, false, false, false, false, false, false] rfl rfl (any_of HT_.out (by kernel_rfl)) (fun _ _ _ h => h) (Or.inr ⟨by rfl, rfl⟩) ?_ ?_
   rotate_left
   ·simp only [Act.put, List.setIfInBounds_toArray, List.set_cons_zero, List.set_cons_succ, i64_w, i32_w]
    rfl
   refine pure_ (i := 10) (N := some 13) (v := undef) (a' := ?_) #[true, true, true, true, true, true, true, true, true, true, true, false, false, false, false, false, false, false, false, false, false, false, false, false, false, false, false, false, false, false, false, false, false, false, false, false, false, false, false] rfl rfl (any_of HT_.out (by kernel_rfl)) (fun _ _ _ h => h) (Or.inr ⟨by rfl, rfl⟩) ?_ ?_
   rotate_left
   ·simp only [Act.put, List.setIfInBounds_toArray, List.set_cons_zero, List.set_cons_succ, i64_w, i32_w]
    rfl
   refine pure_ (i := 11) (N := some 14) (v := undef) (a' := ?_) #[true, true, true, true, true, true, true, true, true, true, true, true, false, false, false, false, false, false, false, false, false, false, false, false, false, false, false, false, false, false, false, false, false, false, false, false, false, false, false] rfl rfl (any_of HT_.out (by kernel_rfl)) (fun _ _ _ h => h) (Or.inr ⟨by rfl, rfl⟩) ?_ ?_
   rotate_left
   ·simp only [Act.put, List.setIfInBounds_toArray, List.set_cons_zero, List.set_cons_succ, i64_w, i32_w]
    rfl
   refine pure_ (i := 12) (N := some 15) (v := undef) (a' := ?_) #[true, true, true, true, true, true, true, true, true, true, true, true, true, false, false, false, false, false, false, false, false, false, false, false, false, false, false, false, false, false, false, false, false, false, false, false, false, false, false] rfl rfl (any_of HT_.out (by kernel_rfl)) (fun _ _ _ h => h) (Or.inr ⟨by rfl, rfl⟩) ?_ ?_
   rotate_left
   ·simp only [Act.put, List.setIfInBounds_toArray, List.set_cons_zero, List.set_cons_succ, i64_w, i32_w]
    rfl
   refine pure_ (i := 13) (N := some 16) (v := undef) (a' := ?_) #[true, true, true, true, true, true, true, true, true, true, true, true, true, true, false, false, false, false, false, false, false, false, false, false, false, false, false, false, false, false, false, false, false, false, false, false, false, false, false] rfl rfl (any_of HT_.out (by kernel_rfl)) (fun _ _ _ h => h) (Or.inr ⟨by rfl, rfl⟩) ?_ ?_
   rotate_left
   ·simp only [Act.put, List.setIfInBounds_toArray, List.set_cons_zero, List.set_cons_succ, i64_w, i32_w]
    rfl
   refine pure_ (i := 14) (N := some 17) (v := undef) (a' := ?_) #[true, true, true, true, true, true, true, true, true, true, true, true, true, true, true, false, false, false, false, false, false, false, false, false, false, false, false, false, false, false, false, false, false, false, false, false, false, false, false] rfl rfl (any_of HT_.out (by kernel_rfl)) (fun _ _ _ h => h) (Or.inr ⟨by rfl, rfl⟩) ?_ ?_
   rotate_left
   ·simp only [Act.put, List.setIfInBounds_toArray, List.set_cons_zero, List.set_cons_succ, i64_w, i32_w]
    rfl
   refine pure_ (i := 15) (N := some 18) (v := undef) (a' := ?_) #[true, true, true, true, true, true, true, true, true, true, true, true, true, true, true, true, false, false, false, false, false, false, false, false, false, false, false, false, false, false, false, false, false, false, false, false, false, false, false] rfl rfl (any_of HT_.out (by kernel_rfl)) (fun _ _ _ h => h) (Or.inr ⟨by rfl, rfl⟩) ?_ ?_
   rotate_left
   ·simp only [Act.put, List.setIfInBounds_toArray, List.set_cons_zero, List.set_cons_succ, i64_w, i32_w]
    rfl
   refine pure_ (i := 16) (N := some 19) (v := ?_) (a' := ?_) #[true, true, true, true, true, true, true, true, true, true, true, true, true, true, true, true, true, false, false, false, false, false, false, false, false, false, false, false, false, false, false, false, false, false, false, false, false, false, false] rfl rfl (any_of HT_.out (by kernel_rfl)) (fun _ _ _ h => h) (Or.inl ⟨by rfl, ?_⟩) ?_ ?_
   rotate_left
   ·intro w'
    go_simp
    with_reducible rfl
   rotate_left
   ·simp only [Act.put, List.setIfInBounds_toArray, List.set_cons_zero, List.set_cons_succ, i64_w, i32_w]
    rfl
   refine pure_ (i := 17) (N := some 20) (v := ?_) (a' := ?_) #[true, true, true, true, true, true, true, true, true, true, true, true, true, true, true, true, true, true, false, false, false, false, false, false, false, false, false, false, false, false, false, false, false, false, false, false, false, false, false] rfl rfl (any_of HT_.out (by kernel_rfl)) (fun _ _ _ h => h) (Or.inl ⟨by rfl, ?_⟩) ?_ ?_
   rotate_left
   ·intro w'
    go_simp
    with_reducible rfl
   rotate_left
   ·simp only [Act.put, List.setIfInBounds_toArray, List.set_cons_zero, List.set_cons_succ, i64_w, i32_w]
    rfl
   refine pure_ (i := 18) (N := some 21) (v := undef) (a' := ?_) #[true, true, true, true, true, true, true, true, true, true, true, true, true, true, true, true, true, true, true, false, false, false, false, false, false, false, false, false, false, false, false, false, false, false, false, false, false, false, false] rfl rfl (any_of HT_.out (by kernel_rfl)) (fun _ _ _ h => h) (Or.inr ⟨by rfl, rfl⟩) ?_ ?_
   rotate_left
   ·simp only [Act.put, List.setIfInBounds_toArray, List.set_cons_zero, List.set_cons_succ, i64_w, i32_w]
    rfl
   refine pure_ (i := 19) (N := some 22) (v := undef) (a' := ?_) #[true, true, true, true, true, true, true, true, true, true, true, true, true, true, true, true, true, true, true, true, false, false, false, false, false, false, false, false, false, false, false, false, false, false, false, false, false, false, false] rfl rfl (any_of HT_.out (by kernel_rfl)) (fun _ _ _ h => h) (Or.inr ⟨by rfl, rfl⟩) ?_ ?_
   rotate_left
   ·simp only [Act.put, List.setIfInBounds_toArray, List.set_cons_zero, List.set_cons_succ, i64_w, i32_w]
    rfl
   refine pure_ (i := 20) (N := some 23) (v := undef) (a' := ?_) #[true, true, true, true, true, true, true, true, true, true, true, true, true, true, true, true, true, true, true, true, true, false, false, false, false, false, false, false, false, false, false, false, false, false, false, false, false, false, false] rfl rfl (any_of HT_.out (by kernel_rfl)) (fun _ _ _ h => h) (Or.inr ⟨by rfl, rfl⟩) ?_ ?_
   rotate_left
   ·simp only [Act.put, List.setIfInBounds_toArray, List.set_cons_zero, List.set_cons_succ, i64_w, i32_w]
    rfl
   refine pure_ (i := 21) (N := some 24) (v := undef) (a' := ?_) #[true, true, true, true, true, true, true, true, true, true, true, true, true, true, true, true, true, true, true, true, true, true, false, false, false, false, false, false, false, false, false, false, false, false, false, false, false, false, false] rfl rfl (any_of HT_.out (by kernel_rfl)) (fun _ _ _ h => h) (Or.inr ⟨by rfl, rfl⟩) ?_ ?_
   rotate_left
   ·simp only [Act.put, List.setIfInBounds_toArray, List.set_cons_zero, List.set_cons_succ, i64_w, i32_w]
    rfl
   refine pure_ (i := 22) (N := some 25) (v := undef) (a' := ?_) #[true, true, true, true, true, true, true, true, true, true, true, true, true, true, true, true, true, true, true, true, true, true, true, false, false, false, false, false, false, false, false, false, false, false, false, false, false, false, false] rfl rfl (any_of HT_.out (by kernel_rfl)) (fun _ _ _ h => h) (Or.inr ⟨by rfl, rfl⟩) ?_ ?_
   rotate_left
   ·simp only [Act.put, List.setIfInBounds_toArray, List.set_cons_zero, List.set_cons_succ, i64_w, i32_w]
    rfl
   refine pure_ (i := 23) (N := some 26) (v := undef) (a' := ?_) #[true, true, true, true, true, true, true, true, true, true, true, true, true, true, true, true, true, true, true, true, true, true, true, true, false, false, false, false, false, false, false, false, false, false, false, false, false, false, false] rfl rfl (any_of HT_.out (by kernel_rfl)) (fun _ _ _ h => h) (Or.inr ⟨by rfl, rfl⟩) ?_ ?_
   rotate_left
   ·simp only [Act.put, List.setIfInBounds_toArray, List.set_cons_zero, List.set_cons_succ, i64_w, i32_w]
    rfl
   refine pure_ (i := 24) (N := some 27) (v := undef) (a' := ?_) #[true, true, true, true, true, true, true, true, true, true, true, true, true, true, true, true, true, true, true, true, true, true, true, true, true, false, false, false, false, false, false, false, false, false, false, false, false, false, false] rfl rfl (any_of HT_.out (by kernel_rfl)) (fun _ _ _ h => h) (Or.inr ⟨by rfl, rfl⟩) ?_ ?_
   rotate_left
   ·simp only [Act.put, List.setIfInBounds_toArray, List.set_cons_zero, List.set_cons_succ, i64_w, i32_w]
    rfl
   refine pure_ (i := 25) (N := some 28) (v := undef) (a' := ?_) #[true, true, true, true, true, true, true, true, true, true, true, true, true, true, true, true, true, true, true, true, true, true, true, true, true, true, false, false, false, false, false, false, false, false, false, false, false, false, false] rfl rfl (any_of HT_.out (by kernel_rfl)) (fun _ _ _ h => h) (Or.inr ⟨by rfl, rfl⟩) ?_ ?_
   rotate_left
   ·simp only [Act.put, List.setIfInBounds_toArray, List.set_cons_zero, List.set_cons_succ, i64_w, i32_w]
    rfl
   refine pure_ (i := 26) (N := some 29) (v := undef) (a' := ?_) #[true, true, true, true, true, true, true, true, true, true, true, true, true, true, true, true, true, true, true, true, true, true, true, true, true, true, true, false, false, false, false, false, false, false, false, false, false, false, false] rfl rfl (any_of HT_.out (by kernel_rfl)) (fun _ _ _ h => h) (Or.inr ⟨by rfl, rfl⟩) ?_ ?_
   rotate_left
   ·simp only [Act.put, List.setIfInBounds_toArray, List.set_cons_zero, List.set_cons_succ, i64_w, i32_w]
    rfl
   refine pure_ (i := 27) (N := some 30) (v := ?_) (a' := ?_) #[true, true, true, true, true, true, true, true, true, true, true, true, true, true, true, true, true, true, true, true, true, true, true, true, true, true, true, true, false, false, false, false, false, false, false, false, false, false, false] rfl rfl (any_of HT_.out (by kernel_rfl)) (fun _ _ _ h => h) (Or.inl ⟨by rfl, ?_⟩) ?_ ?_
   rotate_left
   ·intro w'
    go_simp
    with_reducible rfl
   rotate_left
   ·simp only [Act.put, List.setIfInBounds_toArray, List.set_cons_zero, List.set_cons_succ, i64_w, i32_w]
    rfl
   refine pure_ (i := 28) (N := some 31) (v := ?_) (a' := ?_) #[true, true, true, true, true, true, true, true, true, true, true, true, true, true, true, true, true, true, true, true, true, true, true, true, true, true, true, true, true, false, false, false, false, false, false, false, false, false, false] rfl rfl (any_of HT_.out (by kernel_rfl)) (fun _ _ _ h => h) (Or.inl ⟨by rfl, ?_⟩) ?_ ?_
   rotate_left
   ·intro w'
    go_simp
    with_reducible rfl
   rotate_left
   ·simp only [Act.put, List.setIfInBounds_toArray, List.set_cons_zero, List.set_cons_succ, i64_w, i32_w]
    rfl
   refine pure_ (i := 29) (N := some 32) (v := undef) (a' := ?_) #[true, true, true, true, true, true, true, true, true, true, true, true, true, true, true, true, true, true, true, true, true, true, true, true, true, true, true, true, true, true, false, false, false, false, false, false, false, false, false] rfl rfl (any_of HT_.out (by kernel_rfl)) (fun _ _ _ h => h) (Or.inr ⟨by rfl, rfl⟩) ?_ ?_
   rotate_left
   ·simp only [Act.put, List.setIfInBounds_toArray, List.set_cons_zero, List.set_cons_succ, i64_w, i32_w]
    rfl
   refine pure_ (i := 30) (N := some 33) (v := undef) (a' := ?_) #[true, true, true, true, true, true, true, true, true, true, true, true, true, true, true, true, true, true, true, true, true, true, true, true, true, true, true, true, true, true, true, false, false, false, false, false, false, false, false] rfl rfl (any_of HT_.out (by kernel_rfl)) (fun _ _ _ h => h) (Or.inr ⟨by rfl, rfl⟩) ?_ ?_
   rotate_left
   ·simp only [Act.put, List.setIfInBounds_toArray, List.set_cons_zero, List.set_cons_succ, i64_w, i32_w]
    rfl
   refine pure_ (i := 31) (N := some 34) (v := undef) (a' := ?_) #[true, true, true, true, true, true, true, true, true, true, true, true, true, true, true, true, true, true, true, true, true, true, true, true, true, true, true, true, true, true, true, true, false, false, false, false, false, false, false] rfl rfl (any_of HT_.out (by kernel_rfl)) (fun _ _ _ h => h) (Or.inr ⟨by rfl, rfl⟩) ?_ ?_
   rotate_left
   ·simp only [Act.put, List.setIfInBounds_toArray, List.set_cons_zero, List.set_cons_succ, i64_w, i32_w]
    rfl
   refine pure_ (i := 32) (N := some 35) (v := undef) (a' := ?_) #[true, true, true, true, true, true, true, true, true, true, true, true, true, true, true, true, true, true, true, true, true, true, true, true, true, true, true, true, true, true, true, true, true, false, false, false, false, false, false] rfl rfl (any_of HT_.out (by kernel_rfl)) (fun _ _ _ h => h) (Or.inr ⟨by rfl, rfl⟩) ?_ ?_
   rotate_left
   ·simp only [Act.put, List.setIfInBounds_toArray, List.set_cons_zero, List.set_cons_succ, i64_w, i32_w]
    rfl
   refine pure_ (i := 33) (N := some 36) (v := undef) (a' := ?_) #[true, true, true, true, true, true, true, true, true, true, true, true, true, true, true, true, true, true, true, true, true, true, true, true, true, true, true, true, true, true, true, true, true, true, false, false, false, false, false] rfl rfl (any_of HT_.out (by kernel_rfl)) (fun _ _ _ h => h) (Or.inr ⟨by rfl, rfl⟩) ?_ ?_
   rotate_left
   ·simp only [Act.put, List.setIfInBounds_toArray, List.set_cons_zero, List.set_cons_succ, i64_w, i32_w]
    rfl
   refine pure_ (i := 34) (N := some 37) (v := undef) (a' := ?_) #[true, true, true, true, true, true, true, true, true, true, true, true, true, true, true, true, true, true, true, true, true, true, true, true, true, true, true, true, true, true, true, true, true, true, true, false, false, false, false] rfl rfl (any_of HT_.out (by kernel_rfl)) (fun _ _ _ h => h) (Or.inr ⟨by rfl, rfl⟩) ?_ ?_
   rotate_left
   ·simp only [Act.put, List.setIfInBounds_toArray, List.set_cons_zero, List.set_cons_succ, i64_w, i32_w]
    rfl
   refine pure_ (i := 35) (N := some 38) (v := undef) (a' := ?_) #[true, true, true, true, true, true, true, true, true, true, true, true, true, true, true, true, true, true, true, true, true, true, true, true, true, true, true, true, true, true, true, true, true, true, true, true, false, false, false] rfl rfl (any_of HT_.out (by kernel_rfl)) (fun _ _ _ h => h) (Or.inr ⟨by rfl, rfl⟩) ?_ ?_
   rotate_left
   ·simp only [Act.put, List.setIfInBounds_toArray, List.set_cons_zero, List.set_cons_succ, i64_w, i32_w]
    rfl
   refine pure_ (i := 36) (N := some 39) (v := undef) (a' := ?_) #[true, true, true, true, true, true, true, true, true, true, true, true, true, true, true, true, true, true, true, true, true, true, true, true, true, true, true, true, true, true, true, true, true, true, true, true, true, false, false] rfl rfl (any_of HT_.out (by kernel_rfl)) (fun _ _ _ h => h) (Or.inr ⟨by rfl, rfl⟩) ?_ ?_
   rotate_left
   ·simp only [Act.put, List.setIfInBounds_toArray, List.set_cons_zero, List.set_cons_succ, i64_w, i32_w]
    rfl
   refine pure_ (i := 37) (N := some 40) (v := undef) (a' := ?_) #[true, true, true, true, true, true, true, true, true, true, true, true, true, true, true, true, true, true, true, true, true, true, true, true, true, true, true, true, true, true, true, true, true, true, true, true, true, true, false] rfl rfl (any_of HT_.out (by kernel_rfl)) (fun _ _ _ h => h) (Or.inr ⟨by rfl, rfl⟩) ?_ ?_
   rotate_left
   ·simp only [Act.put, List.setIfInBounds_toArray, List.set_cons_zero, List.set_cons_succ, i64_w, i32_w]
    rfl
   refine pure_ (i := 38) (N := some 41) (v := ?_) (a' := ?_) #[true, true, true, true, true, true, true, true, true, true, true, true, true, true, true, true, true, true, true, true, true, true, true, true, true, true, true, true, true, true, true, true, true, true, true, true, true, true, true] rfl rfl (any_of HT_.out (by kernel_rfl)) (fun _ _ _ h => h) (Or.inl ⟨by rfl, ?_⟩) ?_ ?_
   rotate_left
   ·intro w'
    go_simp
    with_reducible rfl
   rotate_left
   ·simp only [Act.put, List.setIfInBounds_toArray, List.set_cons_zero, List.set_cons_succ, i64_w, i32_w]
    rfl
   refine done_ (done_of HT_.out (by kernel_rfl)) ?_
   try go_wp2
   go_meet
   case rel => exact ⟨_, (true), (by first | rfl | (simp; done) | (simp [*]; done)), H', ⟨by first | omega | exact Nat.le_refl _⟩, ⟨by repeat (first | (with_reducible first | exact HI0.out | apply IsS49.alloc | apply IsS49.drewN | apply IsS49.drew | apply IsS49.set_0 | apply IsS49.set_1 | apply IsS49.set_2 | apply IsS49.set_3 | apply IsS49.set_4 | apply IsS49.set_5 | apply IsS49.set_6 | apply IsS49.set_7 | apply IsS49.set_8 | apply IsS49.set_9 | apply IsS49.set_10) | exact HI0.out)⟩, ⟨by repeat (first | (with_reducible first | exact HK.out | apply KeepBut.set_ | apply keep_drewN | apply keep_drew | apply keep_alloc) | exact HK.out)⟩, ⟨by repeat (first | (with_reducible first | exact HB.out | apply below_alloc | apply pw_below_drewN | apply below_drew1 | refine below_set ?_ (IsS49.ge HI0.out)) | exact HB.out)⟩⟩
  ·rw [if_neg c3] at H
   have c3b0 : decide (s0_3 < 4) = false := decide_eq_false c3
   clear c3
   (first | rw [c3b0] | (simp only [i64_w, i32_w]; rw [c3b0]) | skip)
   by_cases c5 : s0_4 < (wrap64 (Int.tdiv s0_1 2))
   ·rw [if_pos c5] at H
    have c5b0 : decide (s0_4 < (wrap64 (Int.tdiv s0_1 2))) = true := decide_eq_true c5
    clear c5
    have H' := Aside0.mk H
    clear H
    try go_wp2
    have n0_ := Aside0.mk (IsS49.drew HI0.out)
    have n1_ := Aside0.mk (keep_drew HK.out)
    have n2_ := Aside0.mk (below_drew1 HB.out)
    clear HI0
    clear HK
    clear HB
    have HI0 := n0_
    have HK := n1_
    have HB := n2_
    clear n0_ n1_ n2_
    refine start_ (n := 39) (S := fun w' => w'.cell? ⟨g, 0, none⟩ = some (.int .i64 s0_0) ∧ w'.cell? ⟨g, 1, none⟩ = some (.int .i64 s0_1) ∧ w'.cell? ⟨g, 2, none⟩ = some (.int .i64 s0_2) ∧ w'.cell? ⟨g, 3, none⟩ = some (.int .i64 s0_3) ∧ w'.cell? ⟨g, 4, none⟩ = some (.int .i64 s0_4) ∧ w'.cell? ⟨g, 5, none⟩ = some (.int .i64 s0_5) ∧ w'.cell? ⟨g, 6, none⟩ = some (.int .i64 s0_6) ∧ w'.cell? ⟨g, 7, none⟩ = some (.int .i64 s0_7) ∧ w'.cell? ⟨g, 8, none⟩ = some (.int .i64 s0_8) ∧ w'.cell? ⟨g, 9, none⟩ = some (.int .i64 s0_9) ∧ w'.cell? ⟨g, 10, none⟩ = some (.int .i64 s0_10)) (ds := []) #[false, false, false, false, false, false, false, false, false, false, false, false, false, false, false, false, false, false, false, false, false, false, false, false, false, false, false, false, false, false, false, false, false, false, false, false, false, false, false] (by kernel_rfl) rfl rfl ⟨(IsS49.cell_0 HI0.out), (IsS49.cell_1 HI0.out), (IsS49.cell_2 HI0.out), (IsS49.cell_3 HI0.out), (IsS49.cell_4 HI0.out), (IsS49.cell_5 HI0.out), (IsS49.cell_6 HI0.out), (IsS49.cell_7 HI0.out), (IsS49.cell_8 HI0.out), (IsS49.cell_9 HI0.out), (IsS49.cell_10 HI0.out)⟩ (fun hHeld => ?_); refine with_tabW probe_cluster_result.tab1 probe_cluster_result.bits1 (fun HT_ HW_ => ?_)
    generalize w.drew = w6 at HI0 HK HB hHeld ⊢
    refine pure_ (i := 0) (N := some 3) (v := ?_) (a' := ?_) #[true, false, false, false, false, false, false, false, false, false, false, false, false, false, false, false, false, false, false, false, false, false, false, false, false, false, false, false, false, false, false, false, false, false, false, false, false, false, false] rfl rfl (any_of HT_.out (by kernel_rfl)) (fun _ _ _ h => h) (Or.inl ⟨by rfl, ?_⟩) ?_ ?_
    rotate_left
    ·intro w'
     go_simp
     with_reducible rfl
    rotate_left
    ·simp only [Act.put, List.setIfInBounds_toArray, List.set_cons_zero, List.set_cons_succ, i64_w, i32_w]
     rfl
    refine pure_ (i := 1) (N := some 4) (v := ?_) (a' := ?_) #[true, true, false, false, false, false, false, false, false, false, false, false, false, false, false, false, false, false, false, false, false, false, false, false, false, false, false, false, false, false, false, false, false, false, false, false, false, false, false] rfl rfl (any_of HT_.out (by kernel_rfl)) (fun _ _ _ h => h) (Or.inl ⟨by rfl, ?_⟩) ?_ ?_
    rotate_left
    ·intro w'
     go_simp
     with_reducible rfl
    rotate_left
    ·simp only [Act.put, List.setIfInBounds_toArray, List.set_cons_zero, List.set_cons_succ, i64_w, i32_w]
     rfl
    refine pure_ (i := 2) (N := some 5) (v := ?_) (a' := ?_) #[true, true, true, false, false, false, false, false, false, false, false, false, false, false, false, false, false, false, false, false, false, false, false, false, false, false, false, false, false, false, false, false, false, false, false, false, false, false, false] rfl rfl (any_of HT_.out (by kernel_rfl)) (fun _ _ _ h => h) (Or.inl ⟨by rfl, ?_⟩) ?_ ?_
    rotate_left
    ·intro w'
     go_simp
     with_reducible rfl
    rotate_left
    ·simp only [Act.put, List.setIfInBounds_toArray, List.set_cons_zero, List.set_cons_succ, i64_w, i32_w]
     rfl
    refine take_ (i := 3) (N := some 6) (v := ?_) (a' := ?_) #[true, true, true, true, false, false, false, false, false, false, false, false, false, false, false, false, false, false, false, false, false, false, false, false, false, false, false, false, false, false, false, false, false, false, false, false, false, false, false] rfl rfl (take_ofW HT_.out HW_.out (by kernel_rfl)) (fun _ _ _ h => h) (Or.inl ⟨by rfl, ?_⟩) hHeld ?_ ?_
    rotate_left
    ·rintro w' ⟨s0, s1, s2, s3, s4, s5, s6, s7, s8, s9, s10⟩
     go_simp
     with_reducible rfl
    rotate_left
    ·simp only [Act.put, List.setIfInBounds_toArray, List.set_cons_zero, List.set_cons_succ, i64_w, i32_w]
     rfl
    refine pure_ (i := 4) (N := some 7) (v := ?_) (a' := ?_) #[true, true, true, true, true, false, false, false, false, false, false, false, false, false, false, false, false, false, false, false, false, false, false, false, false, false, false, false, false, false, false, false, false, false, false, false, false, false, false] rfl rfl (any_of HT_.out (by kernel_rfl)) (fun _ _ _ h => h) (Or.inl ⟨by rfl, ?_⟩) ?_ ?_
    rotate_left
    ·intro w'
     go_simp
     with_reducible rfl
    rotate_left
    ·simp only [Act.put, List.setIfInBounds_toArray, List.set_cons_zero, List.set_cons_succ, i64_w, i32_w]
     rfl
    refine pure_ (i := 5) (N := some 8) (v := ?_) (a' := ?_) #[true, true, true, true, true, true, false, false, false, false, false, false, false, false, false, false, false, false, false, false, false, false, false, false, false, false, false, false, false, false, false, false, false, false, false, false, false, false, false] rfl rfl (any_of HT_.out (by kernel_rfl)) (fun _ _ _ h => h) (Or.inl ⟨by rfl, ?_⟩) ?_ ?_
    rotate_left
    ·intro w'
     go_simp
     with_reducible rfl
    rotate_left
    ·simp only [Act.put, List.setIfInBounds_toArray, List.set_cons_zero, List.set_cons_succ, i64_w, i32_w]
     rfl
    refine pure_ (i := 6) (N := some 9) (v := ?_) (a' := ?_) #[true, true, true, true, true, true, true, false, false, false, false, false, false, false, false, false, false, false, false, false, false, false, false, false, false, false, false, false, false, false, false, false, false, false, false, false, false, false, false] rfl rfl (any_of HT_.out (by kernel_rfl)) (fun _ _ _ h => h) (Or.inl ⟨by rfl, ?_⟩) ?_ ?_
    rotate_left
    ·intro w'
     go_simp
     with_reducible rfl
    rotate_left
    ·simp only [Act.put, List.setIfInBounds_toArray, List.set_cons_zero, List.set_cons_succ, i64_w, i32_w]
     rfl
    refine pure_ (i := 7) (N := some 10) (v := ?_) (a' := ?_) #[true, true, true, true, true, true, true, true, false, false, false, false, false, false, false, false, false, false, false, false, false, false, false, false, false, false, false, false, false, false, false, false, false, false, false, false, false, false, false] rfl rfl (any_of HT_.out (by kernel_rfl)) (fun _ _ _ h => h) (Or.inl ⟨by rfl, ?_⟩) ?_ ?_
    rotate_left
    ·intro w'
     go_simp
     with_reducible rfl
    rotate_left
    ·simp only [Act.put, List.setIfInBounds_toArray, List.set_cons_zero, List.set_cons_succ, i64_w, i32_w]
     rfl
    refine pure_ (i := 8) (N := some 11) (v := ?_) (a' := ?_) #[true, true, true, true, true, true, true, true, true, false, false, false, false, false, false, false, false, false, false, false, false, false, false, false, false, false, false, false, false, false, false, false, false, false, false, false, false, false, false] rfl rfl (any_of HT_.out (by kernel_rfl)) (fun _ _ _ h => h) (Or.inl ⟨by rfl, ?_⟩) ?_ ?_
    rotate_left
    ·intro w'
     go_simp
     with_reducible rfl
    rotate_left
    ·simp only [Act.put, List.setIfInBounds_toArray, List.set_cons_zero, List.set_cons_succ, i64_w, i32_w]
     rfl
    refine pure_ (i := 10) (N := some 13) (v := ?_) (a' := ?_) #[true, true, true, true, true, true, true, true, true, false, true, false, false, false, false, false, false, false, false, false, false, false, false, false, false, false, false, false, false, false, false, false, false, false, false, false, false, false, false] rfl rfl (any_of HT_.out (by kernel_rfl)) (fun _ _ _ h => h) (Or.inl ⟨by rfl, ?_⟩) ?_ ?_
    rotate_left
    ·intro w'
     go_simp
     with_reducible rfl
    rotate_left
    ·simp only [Act.put, List.setIfInBounds_toArray, List.set_cons_zero, List.set_cons_succ, i64_w, i32_w]
     rfl
    refine pure_ (i := 11) (N := some 14) (v := ?_) (a' := ?_) #[true, true, true, true, true, true, true, true, true, false, true, true, false, false, false, false, false, false, false, false, false, false, false, false, false, false, false, false, false, false, false, false, false, false, false, false, false, false, false] rfl rfl (any_of HT_.out (by kernel_rfl)) (fun _ _ _ h => h) (Or.inl ⟨by rfl, ?_⟩) ?_ ?_
    rotate_left
    ·intro w'
     go_simp
     with_reducible rfl
    rotate_left
    ·simp only [Act.put, List.setIfInBounds_toArray, List.set_cons_zero, List.set_cons_succ, i64_w, i32_w]
     rfl
    refine pure_ (i := 12) (N := some 15) (v := ?_) (a' := ?_) #[true, true, true, true, true, true, true, true, true, false, true, true, true, false, false, false, false, false, false, false, false, false, false, false, false, false, false, false, false, false, false, false, false, false, false, false, false, false, false] rfl rfl (any_of HT_.out (by kernel_rfl)) (fun _ _ _ h => h) (Or.inl ⟨by rfl, ?_⟩) ?_ ?_
    rotate_left
    ·intro w'
     go_simp
     with_reducible rfl
    rotate_left
    ·simp only [Act.put, List.setIfInBounds_toArray, List.set_cons_zero, List.set_cons_succ, i64_w, i32_w]
     rfl
    refine take_ (i := 9) (N := some 12) (v := ?_) (a' := ?_) #[true, true, true, true, true, true, true, true, true, true, true, true, true, false, false, false, false, false, false, false, false, false, false, false, false, false, false, false, false, false, false, false, false, false, false, false, false, false, false] rfl rfl (take_ofW HT_.out HW_.out (by kernel_rfl)) (fun _ _ _ h => h) (Or.inl ⟨by rfl, ?_⟩) hHeld ?_ ?_
    rotate_left
    ·rintro w' ⟨s0, s1, s2, s3, s4, s5, s6, s7, s8, s9, s10⟩
     go_simp
     with_reducible rfl
    rotate_left
    ·simp only [Act.put, List.setIfInBounds_toArray, List.set_cons_zero, List.set_cons_succ, i64_w, i32_w]
     rfl
    refine take_ (i := 13) (N := some 16) (v := ?_) (a' := ?_) #[true, true, true, true, true, true, true, true, true, true, true, true, true, true, false, false, false, false, false, false, false, false, false, false, false, false, false, false, false, false, false, false, false, false, false, false, false, false, false] rfl rfl (take_ofW HT_.out HW_.out (by kernel_rfl)) (fun _ _ _ h => h) (Or.inl ⟨by rfl, ?_⟩) hHeld ?_ ?_
    rotate_left
    ·rintro w' ⟨s0, s1, s2, s3, s4, s5, s6, s7, s8, s9, s10⟩
     go_simp
     with_reducible rfl
    rotate_left
    ·simp only [Act.put, List.setIfInBounds_toArray, List.set_cons_zero, List.set_cons_succ, i64_w, i32_w]
     rfl
    refine pure_ (i := 14) (N := some 17) (v := ?_) (a' := ?_) #[true, true, true, true, true, true, true, true, true, true, true, true, true, true, true, false, false, false, false, false, false, false, false, false, false, false, false, false, false, false, false, false, false, false, false, false, false, false, false] rfl rfl (any_of HT_.out (by kernel_rfl)) (fun _ _ _ h => h) (Or.inl ⟨by rfl, ?_⟩) ?_ ?_
    rotate_left
    ·intro w'
     go_simp
     with_reducible rfl
    rotate_left
    ·simp only [Act.put, List.setIfInBounds_toArray, List.set_cons_zero, List.set_cons_succ, i64_w, i32_w]
     rfl
    refine pure_ (i := 15) (N := some 18) (v := ?_) (a' := ?_) #[true, true, true, true, true, true, true, true, true, true, true, true, true, true, true, true, false, false, false, false, false, false, false, false, false, false, false, false, false, false, false, false, false, false, false, false, false, false, false] rfl rfl (any_of HT_.out (by kernel_rfl)) (fun _ _ _ h => h) (Or.inl ⟨by rfl, ?_⟩) ?_ ?_
    rotate_left
    ·intro w'
     go_simp
     with_reducible rfl
    rotate_left
    ·simp only [Act.put, List.setIfInBounds_toArray, List.set_cons_zero, List.set_cons_succ, i64_w, i32_w]
     rfl
    refine pure_ (i := 16) (N := some 19) (v := ?_) (a' := ?_) #[true, true, true, true, true, true, true, true, true, true, true, true, true, true, true, true, true, false, false, false, false, false, false, false, false, false, false, false, false, false, false, false, false, false, false, false, false, false, false] rfl rfl (any_of HT_.out (by kernel_rfl)) (fun _ _ _ h => h) (Or.inl ⟨by rfl, ?_⟩) ?_ ?_
    rotate_left
    ·intro w'
     go_simp
     with_reducible rfl
    rotate_left
    ·simp only [Act.put, List.setIfInBounds_toArray, List.set_cons_zero, List.set_cons_succ, i64_w, i32_w]
     rfl
    refine pure_ (i := 17) (N := some 20) (v := ?_) (a' := ?_) #[true, true, true, true, true, true, true, true, true, true, true, true, true, true, true, true, true, true, false, false, false, false, false, false, false, false, false, false, false, false, false, false, false, false, false, false, false, false, false] rfl rfl (any_of HT_.out (by kernel_rfl)) (fun _ _ _ h => h) (Or.inl ⟨by rfl, ?_⟩) ?_ ?_
    rotate_left
    ·intro w'
     go_simp
     with_reducible rfl
    rotate_left
    ·simp only [Act.put, List.setIfInBounds_toArray, List.set_cons_zero, List.set_cons_succ, i64_w, i32_w]
     rfl
    refine pure_ (i := 18) (N := some 21) (v := undef) (a' := ?_) #[true, true, true, true, true, true, true, true, true, true, true, true, true, true, true, true, true, true, true, false, false, false, false, false, false, false, false, false, false, false, false, false, false, false, false, false, false, false, false] rfl rfl (any_of HT_.out (by kernel_rfl)) (fun _ _ _ h => h) (Or.inr ⟨by rfl, rfl⟩) ?_ ?_
    rotate_left
    ·simp only [Act.put, List.setIfInBounds_toArray, List.set_cons_zero, List.set_cons_succ, i64_w, i32_w]
     rfl
    refine pure_ (i := 19) (N := some 22) (v := undef) (a' := ?_) #[true, true, true, true, true, true, true, true, true, true, true, true, true, true, true, true, true, true, true, true, false, false, false, false, false, false, false, false, false, false, false, false, false, false, false, false, false, false, false] rfl rfl (any_of HT_.out (by kernel_rfl)) (fun _ _ _ h => h) (Or.inr ⟨by rfl, rfl⟩) ?_ ?_
    rotate_left
    ·simp only [Act.put, List.setIfInBounds_toArray, List.set_cons_zero, List.set_cons_succ, i64_w, i32_w]
     rfl
    refine pure_ (i := 20) (N := some 23) (v := undef) (a' := ?_) #[true, true, true, true, true, true, true, true, true, true, true, true, true, true, true, true, true, true, true, true, true, false, false, false, false, false, false, false, false, false, false, false, false, false, false, false, false, false, false] rfl rfl (any_of HT_.out (by kernel_rfl)) (fun _ _ _ h => h) (Or.inr ⟨by rfl, rfl⟩) ?_ ?_
    rotate_left
    ·simp only [Act.put, List.setIfInBounds_toArray, List.set_cons_zero, List.set_cons_succ, i64_w, i32_w]
     rfl
    refine pure_ (i := 21) (N := some 24) (v := undef) (a' := ?_) #[true, true, true, true, true, true, true, true, true, true, true, true, true, true, true, true, true, true, true, true, true, true, false, false, false, false, false, false, false, false, false, false, false, false, false, false, false, false, false] rfl rfl (any_of HT_.out (by kernel_rfl)) (fun _ _ _ h => h) (Or.inr ⟨by rfl, rfl⟩) ?_ ?_
    rotate_left
    ·simp only [Act.put, List.setIfInBounds_toArray, List.set_cons_zero, List.set_cons_succ, i64_w, i32_w]
     rfl
    refine pure_ (i := 22) (N := some 25) (v := undef) (a' := ?_) #[true, true, true, true, true, true, true, true, true, true, true, true, true, true, true, true, true, true, true, true, true, true, true, false, false, false, false, false, false, false, false, false, false, false, false, false, false, false, false] rfl rfl (any_of HT_.out (by kernel_rfl)) (fun _ _ _ h => h) (Or.inr ⟨by rfl, rfl⟩) ?_ ?_
    rotate_left
    ·simp only [Act.put, List.setIfInBounds_toArray, List.set_cons_zero, List.set_cons_succ, i64_w, i32_w]
     rfl
    refine pure_ (i := 23) (N := some 26) (v := undef) (a' := ?_) #[true, true, true, true, true, true, true, true, true, true, true, true, true, true, true, true, true, true, true, true, true, true, true, true, false, false, false, false, false, false, false, false, false, false, false, false, false, false, false] rfl rfl (any_of HT_.out (by kernel_rfl)) (fun _ _ _ h => h) (Or.inr ⟨by rfl, rfl⟩) ?_ ?_
    rotate_left
    ·simp only [Act.put, List.setIfInBounds_toArray, List.set_cons_zero, List.set_cons_succ, i64_w, i32_w]
     rfl
    refine pure_ (i := 24) (N := some 27) (v := undef) (a' := ?_) #[true, true, true, true, true, true, true, true, true, true, true, true, true, true, true, true, true, true, true, true, true, true, true, true, true, false, false, false, false, false, false, false, false, false, false, false, false, false, false] rfl rfl (any_of HT_.out (by kernel_rfl)) (fun _ _ _ h => h) (Or.inr ⟨by rfl, rfl⟩) ?_ ?_
    rotate_left
    ·simp only [Act.put, List.setIfInBounds_toArray, List.set_cons_zero, List.set_cons_succ, i64_w, i32_w]
     rfl
    refine pure_ (i := 25) (N := some 28) (v := undef) (a' := ?_) #[true, true, true, true, true, true, true, true, true, true, true, true, true, true, true, true, true, true, true, true, true, true, true, true, true, true, false, false, false, false, false, false, false, false, false, false, false, false, false] rfl rfl (any_of HT_.out (by kernel_rfl)) (fun _ _ _ h => h) (Or.inr ⟨by rfl, rfl⟩) ?_ ?_
    rotate_left
    ·simp only [Act.put, List.setIfInBounds_toArray, List.set_cons_zero, List.set_cons_succ, i64_w, i32_w]
     rfl
    refine pure_ (i := 26) (N := some 29) (v := undef) (a' := ?_) #[true, true, true, true, true, true, true, true, true, true, true, true, true, true, true, true, true, true, true, true, true, true, true, true, true, true, true, false, false, false, false, false, false, false, false, false, false, false, false] rfl rfl (any_of HT_.out (by kernel_rfl)) (fun _ _ _ h => h) (Or.inr ⟨by rfl, rfl⟩) ?_ ?_
    rotate_left
    ·simp only [Act.put, List.setIfInBounds_toArray, List.set_cons_zero, List.set_cons_succ, i64_w, i32_w]
     rfl
    refine pure_ (i := 27) (N := some 30) (v := ?_) (a' := ?_) #[true, true, true, true, true, true, true, true, true, true, true, true, true, true, true, true, true, true, true, true, true, true, true, true, true, true, true, true, false, false, false, false, false, false, false, false, false, false, false] rfl rfl (any_of HT_.out (by kernel_rfl)) (fun _ _ _ h => h) (Or.inl ⟨by rfl, ?_⟩) ?_ ?_
    rotate_left
    ·intro w'
     go_simp
     with_reducible rfl
    rotate_left
    ·simp only [Act.put, List.setIfInBounds_toArray, List.set_cons_zero, List.set_cons_succ, i64_w, i32_w]
     rfl
    refine pure_ (i := 28) (N := some 31) (v := ?_) (a' := ?_) #[true, true, true, true, true, true, true, true, true, true, true, true, true, true, true, true, true, true, true, true, true, true, true, true, true, true, true, true, true, false, false, false, false, false, false, false, false, false, false] rfl rfl (any_of HT_.out (by kernel_rfl)) (fun _ _ _ h => h) (Or.inl ⟨by rfl, ?_⟩) ?_ ?_
    rotate_left
    ·intro w'
     go_simp
     with_reducible rfl
    rotate_left
    ·simp only [Act.put, List.setIfInBounds_toArray, List.set_cons_zero, List.set_cons_succ, i64_w, i32_w]
     rfl
    refine pure_ (i := 29) (N := some 32) (v := undef) (a' := ?_) #[true, true, true, true, true, true, true, true, true, true, true, true, true, true, true, true, true, true, true, true, true, true, true, true, true, true, true, true, true, true, false, false, false, false, false, false, false, false, false] rfl rfl (any_of HT_.out (by kernel_rfl)) (fun _ _ _ h => h) (Or.inr ⟨by rfl, rfl⟩) ?_ ?_
    rotate_left
    ·simp only [Act.put, List.setIfInBounds_toArray, List.set_cons_zero, List.set_cons_succ, i64_w, i32_w]
     rfl
    refine pure_ (i := 30) (N := some 33) (v := undef) (a' := ?_) #[true, true, true, true, true, true, true, true, true, true, true, true, true, true, true, true, true, true, true, true, true, true, true, true, true, true, true, true, true, true, true, false, false, false, false, false, false, false, false] rfl rfl (any_of HT_.out (by kernel_rfl)) (fun _ _ _ h => h) (Or.inr ⟨by rfl, rfl⟩) ?_ ?_
    rotate_left
    ·simp only [Act.put, List.setIfInBounds_toArray, List.set_cons_zero, List.set_cons_succ, i64_w, i32_w]
     rfl
    refine pure_ (i := 31) (N := some 34) (v := undef) (a' := ?_) #[true, true, true, true, true, true, true, true, true, true, true, true, true, true, true, true, true, true, true, true, true, true, true, true, true, true, true, true, true, true, true, true, false, false, false, false, false, false, false] rfl rfl (any_of HT_.out (by kernel_rfl)) (fun _ _ _ h => h) (Or.inr ⟨by rfl, rfl⟩) ?_ ?_
    rotate_left
    ·simp only [Act.put, List.setIfInBounds_toArray, List.set_cons_zero, List.set_cons_succ, i64_w, i32_w]
     rfl
    refine pure_ (i := 32) (N := some 35) (v := undef) (a' := ?_) #[true, true, true, true, true, true, true, true, true, true, true, true, true, true, true, true, true, true, true, true, true, true, true, true, true, true, true, true, true, true, true, true, true, false, false, false, false, false, false] rfl rfl (any_of HT_.out (by kernel_rfl)) (fun _ _ _ h => h) (Or.inr ⟨by rfl, rfl⟩) ?_ ?_
    rotate_left
    ·simp only [Act.put, List.setIfInBounds_toArray, List.set_cons_zero, List.set_cons_succ, i64_w, i32_w]
     rfl
    refine pure_ (i := 33) (N := some 36) (v := undef) (a' := ?_) #[true, true, true, true, true, true, true, true, true, true, true, true, true, true, true, true, true, true, true, true, true, true, true, true, true, true, true, true, true, true, true, true, true, true, false, false, false, false, false] rfl rfl (any_of HT_.out (by kernel_rfl)) (fun _ _ _ h => h) (Or.inr ⟨by rfl, rfl⟩) ?_ ?_
    rotate_left
    ·simp only [Act.put, List.setIfInBounds_toArray, List.set_cons_zero, List.set_cons_succ, i64_w, i32_w]
     rfl
    refine pure_ (i := 34) (N := some 37) (v := undef) (a' := ?_) #[true, true, true, true, true, true, true, true, true, true, true, true, true, true, true, true, true, true, true, true, true, true, true, true, true, true, true, true, true, true, true, true, true, true, true, false, false, false, false] rfl rfl (any_of HT_.out (by kernel_rfl)) (fun _ _ _ h => h) (Or.inr ⟨by rfl, rfl⟩) ?_ ?_
    rotate_left
    ·simp only [Act.put, List.setIfInBounds_toArray, List.set_cons_zero, List.set_cons_succ, i64_w, i32_w]
     rfl
    refine pure_ (i := 35) (N := some 38) (v := undef) (a' := ?_) #[true, true, true, true, true, true, true, true, true, true, true, true, true, true, true, true, true, true, true, true, true, true, true, true, true, true, true, true, true, true, true, true, true, true, true, true, false, false, false] rfl rfl (any_of HT_.out (by kernel_rfl)) (fun _ _ _ h => h) (Or.inr ⟨by rfl, rfl⟩) ?_ ?_
    rotate_left
    ·simp only [Act.put, List.setIfInBounds_toArray, List.set_cons_zero, List.set_cons_succ, i64_w, i32_w]
     rfl
    refine pure_ (i := 36) (N := some 39) (v := undef) (a' := ?_) #[true, true, true, true, true, true, true, true, true, true, true, true, true, true, true, true, true, true, true, true, true, true, true, true, true, true, true, true, true, true, true, true, true, true, true, true, true, false, false] rfl rfl (any_of HT_.out (by kernel_rfl)) (fun _ _ _ h => h) (Or.inr ⟨by rfl, rfl⟩) ?_ ?_
    rotate_left
    ·simp only [Act.put, List.setIfInBounds_toArray, List.set_cons_zero, List.set_cons_succ, i64_w, i32_w]
     rfl
    refine pure_ (i := 37) (N := some 40) (v := undef) (a' := ?_) #[true, true, true, true, true, true, true, true, true, true, true, true, true, true, true, true, true, true, true, true, true, true, true, true, true, true, true, true, true, true, true, true, true, true, true, true, true, true, false] rfl rfl (any_of HT_.out (by kernel_rfl)) (fun _ _ _ h => h) (Or.inr ⟨by rfl, rfl⟩) ?_ ?_
    rotate_left
    ·simp only [Act.put, List.setIfInBounds_toArray, List.set_cons_zero, List.set_cons_succ, i64_w, i32_w]
     rfl
    refine pure_ (i := 38) (N := some 41) (v := ?_) (a' := ?_) #[true, true, true, true, true, true, true, true, true, true, true, true, true, true, true, true, true, true, true, true, true, true, true, true, true, true, true, true, true, true, true, true, true, true, true, true, true, true, true] rfl rfl (any_of HT_.out (by kernel_rfl)) (fun _ _ _ h => h) (Or.inl ⟨by rfl, ?_⟩) ?_ ?_
    rotate_left
    ·intro w'
     go_simp
     with_reducible rfl
    rotate_left
    ·simp only [Act.put, List.setIfInBounds_toArray, List.set_cons_zero, List.set_cons_succ, i64_w, i32_w]
     rfl
    refine done_ (done_of HT_.out (by kernel_rfl)) ?_
    try go_wp2
    go_meet
    case rel => exact ⟨_, (true), (by first | rfl | (simp; done) | (simp [*]; done)), H', ⟨by first | omega | exact Nat.le_refl _⟩, ⟨by repeat (first | (with_reducible first | exact HI0.out | apply IsS49.alloc | apply IsS49.drewN | apply IsS49.drew | apply IsS49.set_0 | apply IsS49.set_1 | apply IsS49.set_2 | apply IsS49.set_3 | apply IsS49.set_4 | apply IsS49.set_5 | apply IsS49.set_6 | apply IsS49.set_7 | apply IsS49.set_8 | apply IsS49.set_9 | apply IsS49.set_10) | exact HI0.out)⟩, ⟨by repeat (first | (with_reducible first | exact HK.out | apply KeepBut.set_ | apply keep_drewN | apply keep_drew | apply keep_alloc) | exact HK.out)⟩, ⟨by repeat (first | (with_reducible first | exact HB.out | apply below_alloc | apply pw_below_drewN | apply below_drew1 | refine below_set ?_ (IsS49.ge HI0.out)) | exact HB.out)⟩⟩
   ·rw [if_neg c5] at H
    have c5b0 : decide (s0_4 < (wrap64 (Int.tdiv s0_1 2))) = false := decide_eq_false c5
    clear c5
    by_cases c7 : s0_6 ≤ s0_5
    ·rw [if_pos c7] at H
     have c7b0 : decide (s0_6 ≤ s0_5) = true := decide_eq_true c7
     clear c7
     have H' := Aside0.mk H
     clear H
     try go_wp2
     have n0_ := Aside0.mk (IsS49.drew HI0.out)
     have n1_ := Aside0.mk (keep_drew HK.out)
     have n2_ := Aside0.mk (below_drew1 HB.out)
     clear HI0
     clear HK
     clear HB
     have HI0 := n0_
     have HK := n1_
     have HB := n2_
     clear n0_ n1_ n2_
     refine start_ (n := 39) (S := fun w' => w'.cell? ⟨g, 0, none⟩ = some (.int .i64 s0_0) ∧ w'.cell? ⟨g, 1, none⟩ = some (.int .i64 s0_1) ∧ w'.cell? ⟨g, 2, none⟩ = some (.int .i64 s0_2) ∧ w'.cell? ⟨g, 3, none⟩ = some (.int .i64 s0_3) ∧ w'.cell? ⟨g, 4, none⟩ = some (.int .i64 s0_4) ∧ w'.cell? ⟨g, 5, none⟩ = some (.int .i64 s0_5) ∧ w'.cell? ⟨g, 6, none⟩ = some (.int .i64 s0_6) ∧ w'.cell? ⟨g, 7, none⟩ = some (.int .i64 s0_7) ∧ w'.cell? ⟨g, 8, none⟩ = some (.int .i64 s0_8) ∧ w'.cell? ⟨g, 9, none⟩ = some (.int .i64 s0_9) ∧ w'.cell? ⟨g, 10, none⟩ = some (.int .i64 s0_10)) (ds := []) #[false, false, false, false, false, false, false, false, false, false, false, false, false, false, false, false, false, false, false, false, false, false, false, false, false, false, false, false, false, false, false, false, false, false, false, false, false, false, false] (by kernel_rfl) rfl rfl ⟨(IsS49.cell_0 HI0.out), (IsS49.cell_1 HI0.out), (IsS49.cell_2 HI0.out), (IsS49.cell_3 HI0.out), (IsS49.cell_4 HI0.out), (IsS49.cell_5 HI0.out), (IsS49.cell_6 HI0.out), (IsS49.cell_7 HI0.out), (IsS49.cell_8 HI0.out), (IsS49.cell_9 HI0.out), (IsS49.cell_10 HI0.out)⟩ (fun hHeld => ?_); refine with_tabW probe_cluster_result.tab1 probe_cluster_result.bits1 (fun HT_ HW_ => ?_)
     generalize w.drew = w8 at HI0 HK HB hHeld ⊢
     refine pure_ (i := 0) (N := some 3) (v := ?_) (a' := ?_) #[true, false, false, false, false, false, false, false, false, false, false, false, false, false, false, false, false, false, false, false, false, false, false, false, false, false, false, false, false, false, false, false, false, false, false, false, false, false, false] rfl rfl (any_of HT_.out (by kernel_rfl)) (fun _ _ _ h => h) (Or.inl ⟨by rfl, ?_⟩) ?_ ?_
     rotate_left
     ·intro w'
      go_simp
      with_reducible rfl
     rotate_left
     ·simp only [Act.put, List.setIfInBounds_toArray, List.set_cons_zero, List.set_cons_succ, i64_w, i32_w]
      rfl
     refine pure_ (i := 1) (N := some 4) (v := ?_) (a' := ?_) #[true, true, false, false, false, false, false, false, false, false, false, false, false, false, false, false, false, false, false, false, false, false, false, false, false, false, false, false, false, false, false, false, false, false, false, false, false, false, false] rfl rfl (any_of HT_.out (by kernel_rfl)) (fun _ _ _ h => h) (Or.inl ⟨by rfl, ?_⟩) ?_ ?_
     rotate_left
     ·intro w'
      go_simp
      with_reducible rfl
     rotate_left
     ·simp only [Act.put, List.setIfInBounds_toArray, List.set_cons_zero, List.set_cons_succ, i64_w, i32_w]
      rfl
     refine pure_ (i := 2) (N := some 5) (v := ?_) (a' := ?_) #[true, true, true, false, false, false, false, false, false, false, false, false, false, false, false, false, false, false, false, false, false, false, false, false, false, false, false, false, false, false, false, false, false, false, false, false, false, false, false] rfl rfl (any_of HT_.out (by kernel_rfl)) (fun _ _ _ h => h) (Or.inl ⟨by rfl, ?_⟩) ?_ ?_
     rotate_left
     ·intro w'
      go_simp
      with_reducible rfl
     rotate_left
     ·simp only [Act.put, List.setIfInBounds_toArray, List.set_cons_zero, List.set_cons_succ, i64_w, i32_w]
      rfl
     refine take_ (i := 3) (N := some 6) (v := ?_) (a' := ?_) #[true, true, true, true, false, false, false, false, false, false, false, false, false, false, false, false, false, false, false, false, false, false, false, false, false, false, false, false, false, false, false, false, false, false, false, false, false, false, false] rfl rfl (take_ofW HT_.out HW_.out (by kernel_rfl)) (fun _ _ _ h => h) (Or.inl ⟨by rfl, ?_⟩) hHeld ?_ ?_
     rotate_left
     ·rintro w' ⟨s0, s1, s2, s3, s4, s5, s6, s7, s8, s9, s10⟩
      go_simp
      with_reducible rfl
     rotate_left
     ·simp only [Act.put, List.setIfInBounds_toArray, List.set_cons_zero, List.set_cons_succ, i64_w, i32_w]
      rfl
     refine pure_ (i := 4) (N := some 7) (v := ?_) (a' := ?_) #[true, true, true, true, true, false, false, false, false, false, false, false, false, false, false, false, false, false, false, false, false, false, false, false, false, false, false, false, false, false, false, false, false, false, false, false, false, false, false] rfl rfl (any_of HT_.out (by kernel_rfl)) (fun _ _ _ h => h) (Or.inl ⟨by rfl, ?_⟩) ?_ ?_
     rotate_left
     ·intro w'
      go_simp
      with_reducible rfl
     rotate_left
     ·simp only [Act.put, List.setIfInBounds_toArray, List.set_cons_zero, List.set_cons_succ, i64_w, i32_w]
      rfl
     refine pure_ (i := 5) (N := some 8) (v := ?_) (a' := ?_) #[true, true, true, true, true, true, false, false, false, false, false, false, false, false, false, false, false, false, false, false, false, false, false, false, false, false, false, false, false, false, false, false, false, false, false, false, false, false, false] rfl rfl (any_of HT_.out (by kernel_rfl)) (fun _ _ _ h => h) (Or.inl ⟨by rfl, ?_⟩) ?_ ?_
     rotate_left
     ·intro w'
      go_simp
      with_reducible rfl
     rotate_left
     ·simp only [Act.put, List.setIfInBounds_toArray, List.set_cons_zero, List.set_cons_succ, i64_w, i32_w]
      rfl
     refine pure_ (i := 6) (N := some 9) (v := ?_) (a' := ?_) #[true, true, true, true, true, true, true, false, false, false, false, false, false, false, false, false, false, false, false, false, false, false, false, false, false, false, false, false, false, false, false, false, false, false, false, false, false, false, false] rfl rfl (any_of HT_.out (by kernel_rfl)) (fun _ _ _ h => h) (Or.inl ⟨by rfl, ?_⟩) ?_ ?_
     rotate_left
     ·intro w'
      go_simp
      with_reducible rfl
     rotate_left
     ·simp only [Act.put, List.setIfInBounds_toArray, List.set_cons_zero, List.set_cons_succ, i64_w, i32_w]
      rfl
     refine pure_ (i := 7) (N := some 10) (v := ?_) (a' := ?_) #[true, true, true, true, true, true, true, true, false, false, false, false, false, false, false, false, false, false, false, false, false, false, false, false, false, false, false, false, false, false, false, false, false, false, false, false, false, false, false] rfl rfl (any_of HT_.out (by kernel_rfl)) (fun _ _ _ h => h) (Or.inl ⟨by rfl, ?_⟩) ?_ ?_
     rotate_left
     ·intro w'
      go_simp
      with_reducible rfl
     rotate_left
     ·simp only [Act.put, List.setIfInBounds_toArray, List.set_cons_zero, List.set_cons_succ, i64_w, i32_w]
      rfl
     refine pure_ (i := 8) (N := some 11) (v := ?_) (a' := ?_) #[true, true, true, true, true, true, true, true, true, false, false, false, false, false, false, false, false, false, false, false, false, false, false, false, false, false, false, false, false, false, false, false, false, false, false, false, false, false, false] rfl rfl (any_of HT_.out (by kernel_rfl)) (fun _ _ _ h => h) (Or.inl ⟨by rfl, ?_⟩) ?_ ?_
     rotate_left
     ·intro w'
      go_simp
      with_reducible rfl
     rotate_left
     ·simp only [Act.put, List.setIfInBounds_toArray, List.set_cons_zero, List.set_cons_succ, i64_w, i32_w]
      rfl
     refine pure_ (i := 10) (N := some 13) (v := ?_) (a' := ?_) #[true, true, true, true, true, true, true, true, true, false, true, false, false, false, false, false, false, false, false, false, false, false, false, false, false, false, false, false, false, false, false, false, false, false, false, false, false, false, false] rfl rfl (any_of HT_.out (by kernel_rfl)) (fun _ _ _ h => h) (Or.inl ⟨by rfl, ?_⟩) ?_ ?_
     rotate_left
     ·intro w'
      go_simp
      with_reducible rfl
     rotate_left
     ·simp only [Act.put, List.setIfInBounds_toArray, List.set_cons_zero, List.set_cons_succ, i64_w, i32_w]
      rfl
     refine pure_ (i := 11) (N := some 14) (v := ?_) (a' := ?_) #[true, true, true, true, true, true, true, true, true, false, true, true, false, false, false, false, false, false, false, false, false, false, false, false, false, false, false, false, false, false, false, false, false, false, false, false, false, false, false] rfl rfl (any_of HT_.out (by kernel_rfl)) (fun _ _ _ h => h) (Or.inl ⟨by rfl, ?_⟩) ?_ ?_
     rotate_left
     ·intro w'
      go_simp
      with_reducible rfl
     rotate_left
     ·simp only [Act.put, List.setIfInBounds_toArray, List.set_cons_zero, List.set_cons_succ, i64_w, i32_w]
      rfl
     refine pure_ (i := 12) (N := some 15) (v := ?_) (a' := ?_) #[true, true, true, true, true, true, true, true, true, false, true, true, true, false, false, false, false, false, false, false, false, false, false, false, false, false, false, false, false, false, false, false, false, false, false, false, false, false, false] rfl rfl (any_of HT_.out (by kernel_rfl)) (fun _ _ _ h => h) (Or.inl ⟨by rfl, ?_⟩) ?_ ?_
     rotate_left
     ·intro w'
      go_simp
      with_reducible rfl
     rotate_left
     ·simp only [Act.put, List.setIfInBounds_toArray, List.set_cons_zero, List.set_cons_succ, i64_w, i32_w]
      rfl
     refine take_ (i := 9) (N := some 12) (v := ?_) (a' := ?_) #[true, true, true, true, true, true, true, true, true, true, true, true, true, false, false, false, false, false, false, false, false, false, false, false, false, false, false, false, false, false, false, false, false, false, false, false, false, false, false] rfl rfl (take_ofW HT_.out HW_.out (by kernel_rfl)) (fun _ _ _ h => h) (Or.inl ⟨by rfl, ?_⟩) hHeld ?_ ?_
     rotate_left
     ·rintro w' ⟨s0, s1, s2, s3, s4, s5, s6, s7, s8, s9, s10⟩
      go_simp
      with_reducible rfl
     rotate_left
     ·simp only [Act.put, List.setIfInBounds_toArray, List.set_cons_zero, List.set_cons_succ, i64_w, i32_w]
      rfl
     refine take_ (i := 13) (N := some 16) (v := ?_) (a' := ?_) #[true, true, true, true, true, true, true, true, true, true, true, true, true, true, false, false, false, false, false, false, false, false, false, false, false, false, false, false, false, false, false, false, false, false, false, false, false, false, false] rfl rfl (take_ofW HT_.out HW_.out (by kernel_rfl)) (fun _ _ _ h => h) (Or.inl ⟨by rfl, ?_⟩) hHeld ?_ ?_
     rotate_left
     ·rintro w' ⟨s0, s1, s2, s3, s4, s5, s6, s7, s8, s9, s10⟩
      go_simp
      with_reducible rfl
     rotate_left
     ·simp only [Act.put, List.setIfInBounds_toArray, List.set_cons_zero, List.set_cons_succ, i64_w, i32_w]
      rfl
     refine pure_ (i := 14) (N := some 17) (v := ?_) (a' := ?_) #[true, true, true, true, true, true, true, true, true, true, true, true, true, true, true, false, false, false, false, false, false, false, false, false, false, false, false, false, false, false, false, false, false, false, false, false, false, false, false] rfl rfl (any_of HT_.out (by kernel_rfl)) (fun _ _ _ h => h) (Or.inl ⟨by rfl, ?_⟩) ?_ ?_
     rotate_left
     ·intro w'
      go_simp
      with_reducible rfl
     rotate_left
     ·simp only [Act.put, List.setIfInBounds_toArray, List.set_cons_zero, List.set_cons_succ, i64_w, i32_w]
      rfl
     refine pure_ (i := 15) (N := some 18) (v := ?_) (a' := ?_) #[true, true, true, true, true, true, true, true, true, true, true, true, true, true, true, true, false, false, false, false, false, false, false, false, false, false, false, false, false, false, false, false, false, false, false, false, false, false, false] rfl rfl (any_of HT_.out (by kernel_rfl)) (fun _ _ _ h => h) (Or.inl ⟨by rfl, ?_⟩) ?_ ?_
     rotate_left
     ·intro w'
      go_simp
      with_reducible rfl
     rotate_left
     ·simp only [Act.put, List.setIfInBounds_toArray, List.set_cons_zero, List.set_cons_succ, i64_w, i32_w]
      rfl
     refine pure_ (i := 16) (N := some 19) (v := ?_) (a' := ?_) #[true, true, true, true, true, true, true, true, true, true, true, true, true, true, true, true, true, false, false, false, false, false, false, false, false, false, false, false, false, false, false, false, false, false, false, false, false, false, false] rfl rfl (any_of HT_.out (by kernel_rfl)) (fun _ _ _ h => h) (Or.inl ⟨by rfl, ?_⟩) ?_ ?_
     rotate_left
     ·intro w'
      go_simp
      with_reducible rfl
     rotate_left
     ·simp only [Act.put, List.setIfInBounds_toArray, List.set_cons_zero, List.set_cons_succ, i64_w, i32_w]
      rfl
     refine pure_ (i := 17) (N := some 20) (v := ?_) (a' := ?_) #[true, true, true, true, true, true, true, true, true, true, true, true, true, true, true, true, true, true, false, false, false, false, false, false, false, false, false, false, false, false, false, false, false, false, false, false, false, false, false] rfl rfl (any_of HT_.out (by kernel_rfl)) (fun _ _ _ h => h) (Or.inl ⟨by rfl, ?_⟩) ?_ ?_
     rotate_left
     ·intro w'
      go_simp
      with_reducible rfl
     rotate_left
     ·simp only [Act.put, List.setIfInBounds_toArray, List.set_cons_zero, List.set_cons_succ, i64_w, i32_w]
      rfl
     refine pure_ (i := 18) (N := some 21) (v := ?_) (a' := ?_) #[true, true, true, true, true, true, true, true, true, true, true, true, true, true, true, true, true, true, true, false, false, false, false, false, false, false, false, false, false, false, false, false, false, false, false, false, false, false, false] rfl rfl (any_of HT_.out (by kernel_rfl)) (fun _ _ _ h => h) (Or.inl ⟨by rfl, ?_⟩) ?_ ?_
     rotate_left
     ·intro w'
      go_simp
      with_reducible rfl
     rotate_left
     ·simp only [Act.put, List.setIfInBounds_toArray, List.set_cons_zero, List.set_cons_succ, i64_w, i32_w]
      rfl
     refine pure_ (i := 19) (N := some 22) (v := ?_) (a' := ?_) #[true, true, true, true, true, true, true, true, true, true, true, true, true, true, true, true, true, true, true, true, false, false, false, false, false, false, false, false, false, false, false, false, false, false, false, false, false, false, false] rfl rfl (any_of HT_.out (by kernel_rfl)) (fun _ _ _ h => h) (Or.inl ⟨by rfl, ?_⟩) ?_ ?_
     rotate_left
     ·intro w'
      go_simp
      with_reducible rfl
     rotate_left
     ·simp only [Act.put, List.setIfInBounds_toArray, List.set_cons_zero, List.set_cons_succ, i64_w, i32_w]
      rfl
     refine pure_ (i := 20) (N := some 23) (v := ?_) (a' := ?_) #[true, true, true, true, true, true, true, true, true, true, true, true, true, true, true, true, true, true, true, true, true, false, false, false, false, false, false, false, false, false, false, false, false, false, false, false, false, false, false] rfl rfl (any_of HT_.out (by kernel_rfl)) (fun _ _ _ h => h) (Or.inl ⟨by rfl, ?_⟩) ?_ ?_
     rotate_left
     ·intro w'
      go_simp
      with_reducible rfl
     rotate_left
     ·simp only [Act.put, List.setIfInBounds_toArray, List.set_cons_zero, List.set_cons_succ, i64_w, i32_w]
      rfl
     refine pure_ (i := 22) (N := some 25) (v := ?_) (a' := ?_) #[true, true, true, true, true, true, true, true, true, true, true, true, true, true, true, true, true, true, true, true, true, false, true, false, false, false, false, false, false, false, false, false, false, false, false, false, false, false, false] rfl rfl (any_of HT_.out (by kernel_rfl)) (fun _ _ _ h => h) (Or.inl ⟨by rfl, ?_⟩) ?_ ?_
     rotate_left
     ·intro w'
      go_simp
      with_reducible rfl
     rotate_left
     ·simp only [Act.put, List.setIfInBounds_toArray, List.set_cons_zero, List.set_cons_succ, i64_w, i32_w]
      rfl
     refine pure_ (i := 23) (N := some 26) (v := ?_) (a' := ?_) #[true, true, true, true, true, true, true, true, true, true, true, true, true, true, true, true, true, true, true, true, true, false, true, true, false, false, false, false, false, false, false, false, false, false, false, false, false, false, false] rfl rfl (any_of HT_.out (by kernel_rfl)) (fun _ _ _ h => h) (Or.inl ⟨by rfl, ?_⟩) ?_ ?_
     rotate_left
     ·intro w'
      go_simp
      with_reducible rfl
     rotate_left
     ·simp only [Act.put, List.setIfInBounds_toArray, List.set_cons_zero, List.set_cons_succ, i64_w, i32_w]
      rfl
     refine pure_ (i := 24) (N := some 27) (v := ?_) (a' := ?_) #[true, true, true, true, true, true, true, true, true, true, true, true, true, true, true, true, true, true, true, true, true, false, true, true, true, false, false, false, false, false, false, false, false, false, false, false, false, false, false] rfl rfl (any_of HT_.out (by kernel_rfl)) (fun _ _ _ h => h) (Or.inl ⟨by rfl, ?_⟩) ?_ ?_
     rotate_left
     ·intro w'
      go_simp
      with_reducible rfl
     rotate_left
     ·simp only [Act.put, List.setIfInBounds_toArray, List.set_cons_zero, List.set_cons_succ, i64_w, i32_w]
      rfl
     refine take_ (i := 21) (N := some 24) (v := ?_) (a' := ?_) #[true, true, true, true, true, true, true, true, true, true, true, true, true, true, true, true, true, true, true, true, true, true, true, true, true, false, false, false, false, false, false, false, false, false, false, false, false, false, false] rfl rfl (take_ofW HT_.out HW_.out (by kernel_rfl)) (fun _ _ _ h => h) (Or.inl ⟨by rfl, ?_⟩) hHeld ?_ ?_
     rotate_left
     ·rintro w' ⟨s0, s1, s2, s3, s4, s5, s6, s7, s8, s9, s10⟩
      go_simp
      with_reducible rfl
     rotate_left
     ·simp only [Act.put, List.setIfInBounds_toArray, List.set_cons_zero, List.set_cons_succ, i64_w, i32_w]
      rfl
     refine take_ (i := 25) (N := some 28) (v := ?_) (a' := ?_) #[true, true, true, true, true, true, true, true, true, true, true, true, true, true, true, true, true, true, true, true, true, true, true, true, true, true, false, false, false, false, false, false, false, false, false, false, false, false, false] rfl rfl (take_ofW HT_.out HW_.out (by kernel_rfl)) (fun _ _ _ h => h) (Or.inl ⟨by rfl, ?_⟩) hHeld ?_ ?_
     rotate_left
     ·rintro w' ⟨s0, s1, s2, s3, s4, s5, s6, s7, s8, s9, s10⟩
      go_simp
      with_reducible rfl
     rotate_left
     ·simp only [Act.put, List.setIfInBounds_toArray, List.set_cons_zero, List.set_cons_succ, i64_w, i32_w]
      rfl
     refine pure_ (i := 26) (N := some 29) (v := ?_) (a' := ?_) #[true, true, true, true, true, true, true, true, true, true, true, true, true, true, true, true, true, true, true, true, true, true, true, true, true, true, true, false, false, false, false, false, false, false, false, false, false, false, false] rfl rfl (any_of HT_.out (by kernel_rfl)) (fun _ _ _ h => h) (Or.inl ⟨by rfl, ?_⟩) ?_ ?_
     rotate_left
     ·intro w'
      go_simp
      with_reducible rfl
     rotate_left
     ·simp only [Act.put, List.setIfInBounds_toArray, List.set_cons_zero, List.set_cons_succ, i64_w, i32_w]
      rfl
     refine pure_ (i := 27) (N := some 30) (v := ?_) (a' := ?_) #[true, true, true, true, true, true, true, true, true, true, true, true, true, true, true, true, true, true, true, true, true, true, true, true, true, true, true, true, false, false, false, false, false, false, false, false, false, false, false] rfl rfl (any_of HT_.out (by kernel_rfl)) (fun _ _ _ h => h) (Or.inl ⟨by rfl, ?_⟩) ?_ ?_
     rotate_left
     ·intro w'
      go_simp
      with_reducible rfl
     rotate_left
     ·simp only [Act.put, List.setIfInBounds_toArray, List.set_cons_zero, List.set_cons_succ, i64_w, i32_w]
      rfl
     refine pure_ (i := 28) (N := some 31) (v := ?_) (a' := ?_) #[true, true, true, true, true, true, true, true, true, true, true, true, true, true, true, true, true, true, true, true, true, true, true, true, true, true, true, true, true, false, false, false, false, false, false, false, false, false, false] rfl rfl (any_of HT_.out (by kernel_rfl)) (fun _ _ _ h => h) (Or.inl ⟨by rfl, ?_⟩) ?_ ?_
     rotate_left
     ·intro w'
      go_simp
      with_reducible rfl
     rotate_left
     ·simp only [Act.put, List.setIfInBounds_toArray, List.set_cons_zero, List.set_cons_succ, i64_w, i32_w]
      rfl
     refine pure_ (i := 29) (N := some 32) (v := undef) (a' := ?_) #[true, true, true, true, true, true, true, true, true, true, true, true, true, true, true, true, true, true, true, true, true, true, true, true, true, true, true, true, true, true, false, false, false, false, false, false, false, false, false] rfl rfl (any_of HT_.out (by kernel_rfl)) (fun _ _ _ h => h) (Or.inr ⟨by rfl, rfl⟩) ?_ ?_
     rotate_left
     ·simp only [Act.put, List.setIfInBounds_toArray, List.set_cons_zero, List.set_cons_succ, i64_w, i32_w]
      rfl
     refine pure_ (i := 30) (N := some 33) (v := undef) (a' := ?_) #[true, true, true, true, true, true, true, true, true, true, true, true, true, true, true, true, true, true, true, true, true, true, true, true, true, true, true, true, true, true, true, false, false, false, false, false, false, false, false] rfl rfl (any_of HT_.out (by kernel_rfl)) (fun _ _ _ h => h) (Or.inr ⟨by rfl, rfl⟩) ?_ ?_
     rotate_left
     ·simp only [Act.put, List.setIfInBounds_toArray, List.set_cons_zero, List.set_cons_succ, i64_w, i32_w]
      rfl
     refine pure_ (i := 31) (N := some 34) (v := undef) (a' := ?_) #[true, true, true, true, true, true, true, true, true, true, true, true, true, true, true, true, true, true, true, true, true, true, true, true, true, true, true, true, true, true, true, true, false, false, false, false, false, false, false] rfl rfl (any_of HT_.out (by kernel_rfl)) (fun _ _ _ h => h) (Or.inr ⟨by rfl, rfl⟩) ?_ ?_
     rotate_left
     ·simp only [Act.put, List.setIfInBounds_toArray, List.set_cons_zero, List.set_cons_succ, i64_w, i32_w]
      rfl
     refine pure_ (i := 32) (N := some 35) (v := undef) (a' := ?_) #[true, true, true, true, true, true, true, true, true, true, true, true, true, true, true, true, true, true, true, true, true, true, true, true, true, true, true, true, true, true, true, true, true, false, false, false, false, false, false] rfl rfl (any_of HT_.out (by kernel_rfl)) (fun _ _ _ h => h) (Or.inr ⟨by rfl, rfl⟩) ?_ ?_
     rotate_left
     ·simp only [Act.put, List.setIfInBounds_toArray, List.set_cons_zero, List.set_cons_succ, i64_w, i32_w]
      rfl
     refine pure_ (i := 33) (N := some 36) (v := undef) (a' := ?_) #[true, true, true, true, true, true, true, true, true, true, true, true, true, true, true, true, true, true, true, true, true, true, true, true, true, true, true, true, true, true, true, true, true, true, false, false, false, false, false] rfl rfl (any_of HT_.out (by kernel_rfl)) (fun _ _ _ h => h) (Or.inr ⟨by rfl, rfl⟩) ?_ ?_
     rotate_left
     ·simp only [Act.put, List.setIfInBounds_toArray, List.set_cons_zero, List.set_cons_succ, i64_w, i32_w]
      rfl
     refine pure_ (i := 34) (N := some 37) (v := undef) (a' := ?_) #[true, true, true, true, true, true, true, true, true, true, true, true, true, true, true, true, true, true, true, true, true, true, true, true, true, true, true, true, true, true, true, true, true, true, true, false, false, false, false] rfl rfl (any_of HT_.out (by kernel_rfl)) (fun _ _ _ h => h) (Or.inr ⟨by rfl, rfl⟩) ?_ ?_
     rotate_left
     ·simp only [Act.put, List.setIfInBounds_toArray, List.set_cons_zero, List.set_cons_succ, i64_w, i32_w]
      rfl
     refine pure_ (i := 35) (N := some 38) (v := undef) (a' := ?_) #[true, true, true, true, true, true, true, true, true, true, true, true, true, true, true, true, true, true, true, true, true, true, true, true, true, true, true, true, true, true, true, true, true, true, true, true, false, false, false] rfl rfl (any_of HT_.out (by kernel_rfl)) (fun _ _ _ h => h) (Or.inr ⟨by rfl, rfl⟩) ?_ ?_
     rotate_left
     ·simp only [Act.put, List.setIfInBounds_toArray, List.set_cons_zero, List.set_cons_succ, i64_w, i32_w]
      rfl
     refine pure_ (i := 36) (N := some 39) (v := undef) (a' := ?_) #[true, true, true, true, true, true, true, true, true, true, true, true, true, true, true, true, true, true, true, true, true, true, true, true, true, true, true, true, true, true, true, true, true, true, true, true, true, false, false] rfl rfl (any_of HT_.out (by kernel_rfl)) (fun _ _ _ h => h) (Or.inr ⟨by rfl, rfl⟩) ?_ ?_
     rotate_left
     ·simp only [Act.put, List.setIfInBounds_toArray, List.set_cons_zero, List.set_cons_succ, i64_w, i32_w]
      rfl
     refine pure_ (i := 37) (N := some 40) (v := undef) (a' := ?_) #[true, true, true, true, true, true, true, true, true, true, true, true, true, true, true, true, true, true, true, true, true, true, true, true, true, true, true, true, true, true, true, true, true, true, true, true, true, true, false] rfl rfl (any_of HT_.out (by kernel_rfl)) (fun _ _ _ h => h) (Or.inr ⟨by rfl, rfl⟩) ?_ ?_
     rotate_left
     ·simp only [Act.put, List.setIfInBounds_toArray, List.set_cons_zero, List.set_cons_succ, i64_w, i32_w]
      rfl
     refine pure_ (i := 38) (N := some 41) (v := ?_) (a' := ?_) #[true, true, true, true, true, true, true, true, true, true, true, true, true, true, true, true, true, true, true, true, true, true, true, true, true, true, true, true, true, true, true, true, true, true, true, true, true, true, true] rfl rfl (any_of HT_.out (by kernel_rfl)) (fun _ _ _ h => h) (Or.inl ⟨by rfl, ?_⟩) ?_ ?_
     rotate_left
     ·intro w'
      go_simp
      with_reducible rfl
     rotate_left
     ·simp only [Act.put, List.setIfInBounds_toArray, List.set_cons_zero, List.set_cons_succ, i64_w, i32_w]
      rfl
     refine done_ (done_of HT_.out (by kernel_rfl)) ?_
     try go_wp2
     go_meet
     case rel => exact ⟨_, (true), (by first | rfl | (simp; done) | (simp [*]; done)), H', ⟨by first | omega | exact Nat.le_refl _⟩, ⟨by repeat (first | (with_reducible first | exact HI0.out | apply IsS49.alloc | apply IsS49.drewN | apply IsS49.drew | apply IsS49.set_0 | apply IsS49.set_1 | apply IsS49.set_2 | apply IsS49.set_3 | apply IsS49.set_4 | apply IsS49.set_5 | apply IsS49.set_6 | apply IsS49.set_7 | apply IsS49.set_8 | apply IsS49.set_9 | apply IsS49.set_10) | exact HI0.out)⟩, ⟨by repeat (first | (with_reducible first | exact HK.out | apply KeepBut.set_ | apply keep_drewN | apply keep_drew | apply keep_alloc) | exact HK.out)⟩, ⟨by repeat (first | (with_reducible first | exact HB.out | apply below_alloc | apply pw_below_drewN | apply below_drew1 | refine below_set ?_ (IsS49.ge HI0.out)) | exact HB.out)⟩⟩
    ·rw [if_neg c7] at H
     have c7b0 : decide (s0_6 ≤ s0_5) = false := decide_eq_false c7
     clear c7
     have H' := Aside0.mk H
     clear H
     try go_wp2
     have n0_ := Aside0.mk (IsS49.drew HI0.out)
     have n1_ := Aside0.mk (keep_drew HK.out)
     have n2_ := Aside0.mk (below_drew1 HB.out)
     clear HI0
     clear HK
     clear HB
     have HI0 := n0_
     have HK := n1_
     have HB := n2_
     clear n0_ n1_ n2_
     refine start_ (n := 39) (S := fun w' => w'.cell? ⟨g, 0, none⟩ = some (.int .i64 s0_0) ∧ w'.cell? ⟨g, 1, none⟩ = some (.int .i64 s0_1) ∧ w'.cell? ⟨g, 2, none⟩ = some (.int .i64 s0_2) ∧ w'.cell? ⟨g, 3, none⟩ = some (.int .i64 s0_3) ∧ w'.cell? ⟨g, 4, none⟩ = some (.int .i64 s0_4) ∧ w'.cell? ⟨g, 5, none⟩ = some (.int .i64 s0_5) ∧ w'.cell? ⟨g, 6, none⟩ = some (.int .i64 s0_6) ∧ w'.cell? ⟨g, 7, none⟩ = some (.int .i64 s0_7) ∧ w'.cell? ⟨g, 8, none⟩ = some (.int .i64 s0_8) ∧ w'.cell? ⟨g, 9, none⟩ = some (.int .i64 s0_9) ∧ w'.cell? ⟨g, 10, none⟩ = some (.int .i64 s0_10)) (ds := []) #[false, false, false, false, false, false, false, false, false, false, false, false, false, false, false, false, false, false, false, false, false, false, false, false, false, false, false, false, false, false, false, false, false, false, false, false, false, false, false] (by kernel_rfl) rfl rfl ⟨(IsS49.cell_0 HI0.out), (IsS49.cell_1 HI0.out), (IsS49.cell_2 HI0.out), (IsS49.cell_3 HI0.out), (IsS49.cell_4 HI0.out), (IsS49.cell_5 HI0.out), (IsS49.cell_6 HI0.out), (IsS49.cell_7 HI0.out), (IsS49.cell_8 HI0.out), (IsS49.cell_9 HI0.out), (IsS49.cell_10 HI0.out)⟩ (fun hHeld => ?_); refine with_tabW probe_cluster_result.tab1 probe_cluster_result.bits1 (fun HT_ HW_ => ?_)
     generalize w.drew = w9 at HI0 HK HB hHeld ⊢
     refine pure_ (i := 0) (N := some 3) (v := ?_) (a' := ?_) #[true, false, false, false, false, false, false, false, false, false, false, false, false, false, false, false, false, false, false, false, false, false, false, false, false, false, false, false, false, false, false, false, false, false, false, false, false, false, false] rfl rfl (any_of HT_.out (by kernel_rfl)) (fun _ _ _ h => h) (Or.inl ⟨by rfl, ?_⟩) ?_ ?_
     rotate_left
     ·intro w'
      go_simp
      with_reducible rfl
     rotate_left
     ·simp only [Act.put, List.setIfInBounds_toArray, List.set_cons_zero, List.set_cons_succ, i64_w, i32_w]
      rfl
     refine pure_ (i := 1) (N := some 4) (v := ?_) (a' := ?_) #[true, true, false, false, false, false, false, false, false, false, false, false, false, false, false, false, false, false, false, false, false, false, false, false, false, false, false, false, false, false, false, false, false, false, false, false, false, false, false] rfl rfl (any_of HT_.out (by kernel_rfl)) (fun _ _ _ h => h) (Or.inl ⟨by rfl, ?_⟩) ?_ ?_
     rotate_left
     ·intro w'
      go_simp
      with_reducible rfl
     rotate_left
     ·simp only [Act.put, List.setIfInBounds_toArray, List.set_cons_zero, List.set_cons_succ, i64_w, i32_w]
      rfl
     refine pure_ (i := 2) (N := some 5) (v := ?_) (a' := ?_) #[true, true, true, false, false, false, false, false, false, false, false, false, false, false, false, false, false, false, false, false, false, false, false, false, false, false, false, false, false, false, false, false, false, false, false, false, false, false, false] rfl rfl (any_of HT_.out (by kernel_rfl)) (fun _ _ _ h => h) (Or.inl ⟨by rfl, ?_⟩) ?_ ?_
     rotate_left
     ·intro w'
      go_simp
      with_reducible rfl
     rotate_left
     ·simp only [Act.put, List.setIfInBounds_toArray, List.set_cons_zero, List.set_cons_succ, i64_w, i32_w]
      rfl
     refine take_ (i := 3) (N := some 6) (v := ?_) (a' := ?_) #[true, true, true, true, false, false, false, false, false, false, false, false, false, false, false, false, false, false, false, false, false, false, false, false, false, false, false, false, false, false, false, false, false, false, false, false, false, false, false] rfl rfl (take_ofW HT_.out HW_.out (by kernel_rfl)) (fun _ _ _ h => h) (Or.inl ⟨by rfl, ?_⟩) hHeld ?_ ?_
     rotate_left
     ·rintro w' ⟨s0, s1, s2, s3, s4, s5, s6, s7, s8, s9, s10⟩
      go_simp
      with_reducible rfl
     rotate_left
     ·simp only [Act.put, List.setIfInBounds_toArray, List.set_cons_zero, List.set_cons_succ, i64_w, i32_w]
      rfl
     refine pure_ (i := 4) (N := some 7) (v := ?_) (a' := ?_) #[true, true, true, true, true, false, false, false, false, false, false, false, false, false, false, false, false, false, false, false, false, false, false, false, false, false, false, false, false, false, false, false, false, false, false, false, false, false, false] rfl rfl (any_of HT_.out (by kernel_rfl)) (fun _ _ _ h => h) (Or.inl ⟨by rfl, ?_⟩) ?_ ?_
     rotate_left
     ·intro w'
      go_simp
      with_reducible rfl
     rotate_left
     ·simp only [Act.put, List.setIfInBounds_toArray, List.set_cons_zero, List.set_cons_succ, i64_w, i32_w]
      rfl
     refine pure_ (i := 5) (N := some 8) (v := ?_) (a' := ?_) #[true, true, true, true, true, true, false, false, false, false, false, false, false, false, false, false, false, false, false, false, false, false, false, false, false, false, false, false, false, false, false, false, false, false, false, false, false, false, false] rfl rfl (any_of HT_.out (by kernel_rfl)) (fun _ _ _ h => h) (Or.inl ⟨by rfl, ?_⟩) ?_ ?_
     rotate_left
     ·intro w'
      go_simp
      with_reducible rfl
     rotate_left
     ·simp only [Act.put, List.setIfInBounds_toArray, List.set_cons_zero, List.set_cons_succ, i64_w, i32_w]
      rfl
     refine pure_ (i := 6) (N := some 9) (v := ?_) (a' := ?_) #[true, true, true, true, true, true, true, false, false, false, false, false, false, false, false, false, false, false, false, false, false, false, false, false, false, false, false, false, false, false, false, false, false, false, false, false, false, false, false] rfl rfl (any_of HT_.out (by kernel_rfl)) (fun _ _ _ h => h) (Or.inl ⟨by rfl, ?_⟩) ?_ ?_
     rotate_left
     ·intro w'
      go_simp
      with_reducible rfl
     rotate_left
     ·simp only [Act.put, List.setIfInBounds_toArray, List.set_cons_zero, List.set_cons_succ, i64_w, i32_w]
      rfl
     refine pure_ (i := 7) (N := some 10) (v := ?_) (a' := ?_) #[true, true, true, true, true, true, true, true, false, false, false, false, false, false, false, false, false, false, false, false, false, false, false, false, false, false, false, false, false, false, false, false, false, false, false, false, false, false, false] rfl rfl (any_of HT_.out (by kernel_rfl)) (fun _ _ _ h => h) (Or.inl ⟨by rfl, ?_⟩) ?_ ?_
     rotate_left
     ·intro w'
      go_simp
      with_reducible rfl
     rotate_left
     ·simp only [Act.put, List.setIfInBounds_toArray, List.set_cons_zero, List.set_cons_succ, i64_w, i32_w]
      rfl
     refine pure_ (i := 8) (N := some 11) (v := ?_) (a' := ?_) #[true, true, true, true, true, true, true, true, true, false, false, false, false, false, false, false, false, false, false, false, false, false, false, false, false, false, false, false, false, false, false, false, false, false, false, false, false, false, false] rfl rfl (any_of HT_.out (by kernel_rfl)) (fun _ _ _ h => h) (Or.inl ⟨by rfl, ?_⟩) ?_ ?_
     rotate_left
     ·intro w'
      go_simp
      with_reducible rfl
     rotate_left
     ·simp only [Act.put, List.setIfInBounds_toArray, List.set_cons_zero, List.set_cons_succ, i64_w, i32_w]
      rfl
     refine pure_ (i := 10) (N := some 13) (v := ?_) (a' := ?_) #[true, true, true, true, true, true, true, true, true, false, true, false, false, false, false, false, false, false, false, false, false, false, false, false, false, false, false, false, false, false, false, false, false, false, false, false, false, false, false] rfl rfl (any_of HT_.out (by kernel_rfl)) (fun _ _ _ h => h) (Or.inl ⟨by rfl, ?_⟩) ?_ ?_
     rotate_left
     ·intro w'
      go_simp
      with_reducible rfl
     rotate_left
     ·simp only [Act.put, List.setIfInBounds_toArray, List.set_cons_zero, List.set_cons_succ, i64_w, i32_w]
      rfl
     refine pure_ (i := 11) (N := some 14) (v := ?_) (a' := ?_) #[true, true, true, true, true, true, true, true, true, false, true, true, false, false, false, false, false, false, false, false, false, false, false, false, false, false, false, false, false, false, false, false, false, false, false, false, false, false, false] rfl rfl (any_of HT_.out (by kernel_rfl)) (fun _ _ _ h => h) (Or.inl ⟨by rfl, ?_⟩) ?_ ?_
     rotate_left
     ·intro w'
      go_simp
      with_reducible rfl
     rotate_left
     ·simp only [Act.put, List.setIfInBounds_toArray, List.set_cons_zero, List.set_cons_succ, i64_w, i32_w]
      rfl
     refine pure_ (i := 12) (N := some 15) (v := ?_) (a' := ?_) #[true, true, true, true, true, true, true, true, true, false, true, true, true, false, false, false, false, false, false, false, false, false, false, false, false, false, false, false, false, false, false, false, false, false, false, false, false, false, false] rfl rfl (any_of HT_.out (by kernel_rfl)) (fun _ _ _ h => h) (Or.inl ⟨by rfl, ?_⟩) ?_ ?_
     rotate_left
     ·intro w'
      go_simp
      with_reducible rfl
     rotate_left
     ·simp only [Act.put, List.setIfInBounds_toArray, List.set_cons_zero, List.set_cons_succ, i64_w, i32_w]
      rfl
     refine take_ (i := 9) (N := some 12) (v := ?_) (a' := ?_) #[true, true, true, true, true, true, true, true, true, true, true, true, true, false, false, false, false, false, false, false, false, false, false, false, false, false, false, false, false, false, false, false, false, false, false, false, false, false, false] rfl rfl (take_ofW HT_.out HW_.out (by kernel_rfl)) (fun _ _ _ h => h) (Or.inl ⟨by rfl, ?_⟩) hHeld ?_ ?_
     rotate_left
     ·rintro w' ⟨s0, s1, s2, s3, s4, s5, s6, s7, s8, s9, s10⟩
      go_simp
      with_reducible rfl
     rotate_left
     ·simp only [Act.put, List.setIfInBounds_toArray, List.set_cons_zero, List.set_cons_succ, i64_w, i32_w]
      rfl
     refine take_ (i := 13) (N := some 16) (v := ?_) (a' := ?_) #[true, true, true, true, true, true, true, true, true, true, true, true, true, true, false, false, false, false, false, false, false, false, false, false, false, false, false, false, false, false, false, false, false, false, false, false, false, false, false] rfl rfl (take_ofW HT_.out HW_.out (by kernel_rfl)) (fun _ _ _ h => h) (Or.inl ⟨by rfl, ?_⟩) hHeld ?_ ?_
     rotate_left
     ·rintro w' ⟨s0, s1, s2, s3, s4, s5, s6, s7, s8, s9, s10⟩
      go_simp
      with_reducible rfl
     rotate_left
     ·simp only [Act.put, List.setIfInBounds_toArray, List.set_cons_zero, List.set_cons_succ, i64_w, i32_w]
      rfl
     refine pure_ (i := 14) (N := some 17) (v := ?_) (a' := ?_) #[true, true, true, true, true, true, true, true, true, true, true, true, true, true, true, false, false, false, false, false, false, false, false, false, false, false, false, false, false, false, false, false, false, false, false, false, false, false, false] rfl rfl (any_of HT_.out (by kernel_rfl)) (fun _ _ _ h => h) (Or.inl ⟨by rfl, ?_⟩) ?_ ?_
     rotate_left
     ·intro w'
      go_simp
      with_reducible rfl
     rotate_left
     ·simp only [Act.put, List.setIfInBounds_toArray, List.set_cons_zero, List.set_cons_succ, i64_w, i32_w]
      rfl
     refine pure_ (i := 15) (N := some 18) (v := ?_) (a' := ?_) #[true, true, true, true, true, true, true, true, true, true, true, true, true, true, true, true, false, false, false, false, false, false, false, false, false, false, false, false, false, false, false, false, false, false, false, false, false, false, false] rfl rfl (any_of HT_.out (by kernel_rfl)) (fun _ _ _ h => h) (Or.inl ⟨by rfl, ?_⟩) ?_ ?_
     rotate_left
     ·intro w'
      go_simp
      with_reducible rfl
     rotate_left
     ·simp only [Act.put, List.setIfInBounds_toArray, List.set_cons_zero, List.set_cons_succ, i64_w, i32_w]
      rfl
     refine pure_ (i := 16) (N := some 19) (v := ?_) (a' := ?_) #[true, true, true, true, true, true, true, true, true, true, true, true, true, true, true, true, true, false, false, false, false, false, false, false, false, false, false, false, false, false, false, false, false, false, false, false, false, false, false] rfl rfl (any_of HT_.out (by kernel_rfl)) (fun _ _ _ h => h) (Or.inl ⟨by rfl, ?_⟩) ?_ ?_
     rotate_left
     ·intro w'
      go_simp
      with_reducible rfl
     rotate_left
     ·simp only [Act.put, List.setIfInBounds_toArray, List.set_cons_zero, List.set_cons_succ, i64_w, i32_w]
      rfl
     refine pure_ (i := 17) (N := some 20) (v := ?_) (a' := ?_) #[true, true, true, true, true, true, true, true, true, true, true, true, true, true, true, true, true, true, false, false, false, false, false, false, false, false, false, false, false, false, false, false, false, false, false, false, false, false, false] rfl rfl (any_of HT_.out (by kernel_rfl)) (fun _ _ _ h => h) (Or.inl ⟨by rfl, ?_⟩) ?_ ?_
     rotate_left
     ·intro w'
      go_simp
      with_reducible rfl
     rotate_left
     ·simp only [Act.put, List.setIfInBounds_toArray, List.set_cons_zero, List.set_cons_succ, i64_w, i32_w]
      rfl
     refine pure_ (i := 18) (N := some 21) (v := ?_) (a' := ?_) #[true, true, true, true, true, true, true, true, true, true, true, true, true, true, true, true, true, true, true, false, false, false, false, false, false, false, false, false, false, false, false, false, false, false, false, false, false, false, false] rfl rfl (any_of HT_.out (by kernel_rfl)) (fun _ _ _ h => h) (Or.inl ⟨by rfl, ?_⟩) ?_ ?_
     rotate_left
     ·intro w'
      go_simp
      with_reducible rfl
     rotate_left
     ·simp only [Act.put, List.setIfInBounds_toArray, List.set_cons_zero, List.set_cons_succ, i64_w, i32_w]
      rfl
     refine pure_ (i := 19) (N := some 22) (v := ?_) (a' := ?_) #[true, true, true, true, true, true, true, true, true, true, true, true, true, true, true, true, true, true, true, true, false, false, false, false, false, false, false, false, false, false, false, false, false, false, false, false, false, false, false] rfl rfl (any_of HT_.out (by kernel_rfl)) (fun _ _ _ h => h) (Or.inl ⟨by rfl, ?_⟩) ?_ ?_
     rotate_left
     ·intro w'
      go_simp
      with_reducible rfl
     rotate_left
     ·simp only [Act.put, List.setIfInBounds_toArray, List.set_cons_zero, List.set_cons_succ, i64_w, i32_w]
      rfl
     refine pure_ (i := 20) (N := some 23) (v := ?_) (a' := ?_) #[true, true, true, true, true, true, true, true, true, true, true, true, true, true, true, true, true, true, true, true, true, false, false, false, false, false, false, false, false, false, false, false, false, false, false, false, false, false, false] rfl rfl (any_of HT_.out (by kernel_rfl)) (fun _ _ _ h => h) (Or.inl ⟨by rfl, ?_⟩) ?_ ?_
     rotate_left
     ·intro w'
      go_simp
      with_reducible rfl
     rotate_left
     ·simp only [Act.put, List.setIfInBounds_toArray, List.set_cons_zero, List.set_cons_succ, i64_w, i32_w]
      rfl
     refine pure_ (i := 22) (N := some 25) (v := ?_) (a' := ?_) #[true, true, true, true, true, true, true, true, true, true, true, true, true, true, true, true, true, true, true, true, true, false, true, false, false, false, false, false, false, false, false, false, false, false, false, false, false, false, false] rfl rfl (any_of HT_.out (by kernel_rfl)) (fun _ _ _ h => h) (Or.inl ⟨by rfl, ?_⟩) ?_ ?_
     rotate_left
     ·intro w'
      go_simp
      with_reducible rfl
     rotate_left
     ·simp only [Act.put, List.setIfInBounds_toArray, List.set_cons_zero, List.set_cons_succ, i64_w, i32_w]
      rfl
     refine pure_ (i := 23) (N := some 26) (v := ?_) (a' := ?_) #[true, true, true, true, true, true, true, true, true, true, true, true, true, true, true, true, true, true, true, true, true, false, true, true, false, false, false, false, false, false, false, false, false, false, false, false, false, false, false] rfl rfl (any_of HT_.out (by kernel_rfl)) (fun _ _ _ h => h) (Or.inl ⟨by rfl, ?_⟩) ?_ ?_
     rotate_left
     ·intro w'
      go_simp
      with_reducible rfl
     rotate_left
     ·simp only [Act.put, List.setIfInBounds_toArray, List.set_cons_zero, List.set_cons_succ, i64_w, i32_w]
      rfl
     refine pure_ (i := 24) (N := some 27) (v := ?_) (a' := ?_) #[true, true, true, true, true, true, true, true, true, true, true, true, true, true, true, true, true, true, true, true, true, false, true, true, true, false, false, false, false, false, false, false, false, false, false, false, false, false, false] rfl rfl (any_of HT_.out (by kernel_rfl)) (fun _ _ _ h => h) (Or.inl ⟨by rfl, ?_⟩) ?_ ?_
     rotate_left
     ·intro w'
      go_simp
      with_reducible rfl
     rotate_left
     ·simp only [Act.put, List.setIfInBounds_toArray, List.set_cons_zero, List.set_cons_succ, i64_w, i32_w]
      rfl
     refine take_ (i := 21) (N := some 24) (v := ?_) (a' := ?_) #[true, true, true, true, true, true, true, true, true, true, true, true, true, true, true, true, true, true, true, true, true, true, true, true, true, false, false, false, false, false, false, false, false, false, false, false, false, false, false] rfl rfl (take_ofW HT_.out HW_.out (by kernel_rfl)) (fun _ _ _ h => h) (Or.inl ⟨by rfl, ?_⟩) hHeld ?_ ?_
     rotate_left
     ·rintro w' ⟨s0, s1, s2, s3, s4, s5, s6, s7, s8, s9, s10⟩
      go_simp
      with_reducible rfl
     rotate_left
     ·simp only [Act.put, List.setIfInBounds_toArray, List.set_cons_zero, List.set_cons_succ, i64_w, i32_w]
      rfl
     refine take_ (i := 25) (N := some 28) (v := ?_) (a' := ?_) #[true, true, true, true, true, true, true, true, true, true, true, true, true, true, true, true, true, true, true, true, true, true, true, true, true, true, false, false, false, false, false, false, false, false, false, false, false, false, false] rfl rfl (take_ofW HT_.out HW_.out (by kernel_rfl)) (fun _ _ _ h => h) (Or.inl ⟨by rfl, ?_⟩) hHeld ?_ ?_
     rotate_left
     ·rintro w' ⟨s0, s1, s2, s3, s4, s5, s6, s7, s8, s9, s10⟩
      go_simp
      with_reducible rfl
     rotate_left
     ·simp only [Act.put, List.setIfInBounds_toArray, List.set_cons_zero, List.set_cons_succ, i64_w, i32_w]
      rfl
     refine pure_ (i := 26) (N := some 29) (v := ?_) (a' := ?_) #[true, true, true, true, true, true, true, true, true, true, true, true, true, true, true, true, true, true, true, true, true, true, true, true, true, true, true, false, false, false, false, false, false, false, false, false, false, false, false] rfl rfl (any_of HT_.out (by kernel_rfl)) (fun _ _ _ h => h) (Or.inl ⟨by rfl, ?_⟩) ?_ ?_
     rotate_left
     ·intro w'
      go_simp
      with_reducible rfl
     rotate_left
     ·simp only [Act.put, List.setIfInBounds_toArray, List.set_cons_zero, List.set_cons_succ, i64_w, i32_w]
      rfl
     refine pure_ (i := 27) (N := some 30) (v := ?_) (a' := ?_) #[true, true, true, true, true, true, true, true, true, true, true, true, true, true, true, true, true, true, true, true, true, true, true, true, true, true, true, true, false, false, false, false, false, false, false, false, false, false, false] rfl rfl (any_of HT_.out (by kernel_rfl)) (fun _ _ _ h => h) (Or.inl ⟨by rfl, ?_⟩) ?_ ?_
     rotate_left
     ·intro w'
      go_simp
      with_reducible rfl
     rotate_left
     ·simp only [Act.put, List.setIfInBounds_toArray, List.set_cons_zero, List.set_cons_succ, i64_w, i32_w]
      rfl
     refine pure_ (i := 28) (N := some 31) (v := ?_) (a' := ?_) #[true, true, true, true, true, true, true, true, true, true, true, true, true, true, true, true, true, true, true, true, true, true, true, true, true, true, true, true, true, false, false, false, false, false, false, false, false, false, false] rfl rfl (any_of HT_.out (by kernel_rfl)) (fun _ _ _ h => h) (Or.inl ⟨by rfl, ?_⟩) ?_ ?_
     rotate_left
     ·intro w'
      go_simp
      with_reducible rfl
     rotate_left
     ·simp only [Act.put, List.setIfInBounds_toArray, List.set_cons_zero, List.set_cons_succ, i64_w, i32_w]
      rfl
     refine pure_ (i := 29) (N := some 32) (v := ?_) (a' := ?_) #[true, true, true, true, true, true, true, true, true, true, true, true, true, true, true, true, true, true, true, true, true, true, true, true, true, true, true, true, true, true, false, false, false, false, false, false, false, false, false] rfl rfl (any_of HT_.out (by kernel_rfl)) (fun _ _ _ h => h) (Or.inl ⟨by rfl, ?_⟩) ?_ ?_
     rotate_left
     ·intro w'
      go_simp
      with_reducible rfl
     rotate_left
     ·simp only [Act.put, List.setIfInBounds_toArray, List.set_cons_zero, List.set_cons_succ, i64_w, i32_w]
      rfl
     refine pure_ (i := 30) (N := some 33) (v := ?_) (a' := ?_) #[true, true, true, true, true, true, true, true, true, true, true, true, true, true, true, true, true, true, true, true, true, true, true, true, true, true, true, true, true, true, true, false, false, false, false, false, false, false, false] rfl rfl (any_of HT_.out (by kernel_rfl)) (fun _ _ _ h => h) (Or.inl ⟨by rfl, ?_⟩) ?_ ?_
     rotate_left
     ·intro w'
      go_simp
      with_reducible rfl
     rotate_left
     ·simp only [Act.put, List.setIfInBounds_toArray, List.set_cons_zero, List.set_cons_succ, i64_w, i32_w]
      rfl
     refine pure_ (i := 31) (N := some 34) (v := ?_) (a' := ?_) #[true, true, true, true, true, true, true, true, true, true, true, true, true, true, true, true, true, true, true, true, true, true, true, true, true, true, true, true, true, true, true, true, false, false, false, false, false, false, false] rfl rfl (any_of HT_.out (by kernel_rfl)) (fun _ _ _ h => h) (Or.inl ⟨by rfl, ?_⟩) ?_ ?_
     rotate_left
     ·intro w'
      go_simp
      with_reducible rfl
     rotate_left
     ·simp only [Act.put, List.setIfInBounds_toArray, List.set_cons_zero, List.set_cons_succ, i64_w, i32_w]
      rfl
     refine pure_ (i := 33) (N := some 36) (v := ?_) (a' := ?_) #[true, true, true, true, true, true, true, true, true, true, true, true, true, true, true, true, true, true, true, true, true, true, true, true, true, true, true, true, true, true, true, true, false, true, false, false, false, false, false] rfl rfl (any_of HT_.out (by kernel_rfl)) (fun _ _ _ h => h) (Or.inl ⟨by rfl, ?_⟩) ?_ ?_
     rotate_left
     ·intro w'
      go_simp
      with_reducible rfl
     rotate_left
     ·simp only [Act.put, List.setIfInBounds_toArray, List.set_cons_zero, List.set_cons_succ, i64_w, i32_w]
      rfl
     refine pure_ (i := 34) (N := some 37) (v := ?_) (a' := ?_) #[true, true, true, true, true, true, true, true, true, true, true, true, true, true, true, true, true, true, true, true, true, true, true, true, true, true, true, true, true, true, true, true, false, true, true, false, false, false, false] rfl rfl (any_of HT_.out (by kernel_rfl)) (fun _ _ _ h => h) (Or.inl ⟨by rfl, ?_⟩) ?_ ?_
     rotate_left
     ·intro w'
      go_simp
      with_reducible rfl
     rotate_left
     ·simp only [Act.put, List.setIfInBounds_toArray, List.set_cons_zero, List.set_cons_succ, i64_w, i32_w]
      rfl
     refine pure_ (i := 35) (N := some 38) (v := ?_) (a' := ?_) #[true, true, true, true, true, true, true, true, true, true, true, true, true, true, true, true, true, true, true, true, true, true, true, true, true, true, true, true, true, true, true, true, false, true, true, true, false, false, false] rfl rfl (any_of HT_.out (by kernel_rfl)) (fun _ _ _ h => h) (Or.inl ⟨by rfl, ?_⟩) ?_ ?_
     rotate_left
     ·intro w'
      go_simp
      with_reducible rfl
     rotate_left
     ·simp only [Act.put, List.setIfInBounds_toArray, List.set_cons_zero, List.set_cons_succ, i64_w, i32_w]
      rfl
     refine take_ (i := 32) (N := some 35) (v := ?_) (a' := ?_) #[true, true, true, true, true, true, true, true, true, true, true, true, true, true, true, true, true, true, true, true, true, true, true, true, true, true, true, true, true, true, true, true, true, true, true, true, false, false, false] rfl rfl (take_ofW HT_.out HW_.out (by kernel_rfl)) (fun _ _ _ h => h) (Or.inl ⟨by rfl, ?_⟩) hHeld ?_ ?_
     rotate_left
     ·rintro w' ⟨s0, s1, s2, s3, s4, s5, s6, s7, s8, s9, s10⟩
      go_simp
      with_reducible rfl
     rotate_left
     ·simp only [Act.put, List.setIfInBounds_toArray, List.set_cons_zero, List.set_cons_succ, i64_w, i32_w]
      rfl
     refine take_ (i := 36) (N := some 39) (v := ?_) (a' := ?_) #[true, true, true, true, true, true, true, true, true, true, true, true, true, true, true, true, true, true, true, true, true, true, true, true, true, true, true, true, true, true, true, true, true, true, true, true, true, false, false] rfl rfl (take_ofW HT_.out HW_.out (by kernel_rfl)) (fun _ _ _ h => h) (Or.inl ⟨by rfl, ?_⟩) hHeld ?_ ?_
     rotate_left
     ·rintro w' ⟨s0, s1, s2, s3, s4, s5, s6, s7, s8, s9, s10⟩
      go_simp
      with_reducible rfl
     rotate_left
     ·simp only [Act.put, List.setIfInBounds_toArray, List.set_cons_zero, List.set_cons_succ, i64_w, i32_w]
      rfl
     refine pure_ (i := 37) (N := some 40) (v := ?_) (a' := ?_) #[true, true, true, true, true, true, true, true, true, true, true, true, true, true, true, true, true, true, true, true, true, true, true, true, true, true, true, true, true, true, true, true, true, true, true, true, true, true, false] rfl rfl (any_of HT_.out (by kernel_rfl)) (fun _ _ _ h => h) (Or.inl ⟨by rfl, ?_⟩) ?_ ?_
     rotate_left
     ·intro w'
      go_simp
      with_reducible rfl
     rotate_left
     ·simp only [Act.put, List.setIfInBounds_toArray, List.set_cons_zero, List.set_cons_succ, i64_w, i32_w]
      rfl
     refine pure_ (i := 38) (N := some 41) (v := ?_) (a' := ?_) #[true, true, true, true, true, true, true, true, true, true, true, true, true, true, true, true, true, true, true, true, true, true, true, true, true, true, true, true, true, true, true, true, true, true, true, true, true, true, true] rfl rfl (any_of HT_.out (by kernel_rfl)) (fun _ _ _ h => h) (Or.inl ⟨by rfl, ?_⟩) ?_ ?_
     rotate_left
     ·intro w'
      go_simp
      with_reducible rfl
     rotate_left
     ·simp only [Act.put, List.setIfInBounds_toArray, List.set_cons_zero, List.set_cons_succ, i64_w, i32_w]
      rfl
     refine done_ (done_of HT_.out (by kernel_rfl)) ?_
     try go_wp2
     go_meet
     case rel => exact ⟨_, (decide (s0_9 ≤ s0_8)), (by first | rfl | (simp; done) | (simp [*]; done)), H', ⟨by first | omega | exact Nat.le_refl _⟩, ⟨by repeat (first | (with_reducible first | exact HI0.out | apply IsS49.alloc | apply IsS49.drewN | apply IsS49.drew | apply IsS49.set_0 | apply IsS49.set_1 | apply IsS49.set_2 | apply IsS49.set_3 | apply IsS49.set_4 | apply IsS49.set_5 | apply IsS49.set_6 | apply IsS49.set_7 | apply IsS49.set_8 | apply IsS49.set_9 | apply IsS49.set_10) | exact HI0.out)⟩, ⟨by repeat (first | (with_reducible first | exact HK.out | apply KeepBut.set_ | apply keep_drewN | apply keep_drew | apply keep_alloc) | exact HK.out)⟩, ⟨by repeat (first | (with_reducible first | exact HB.out | apply below_alloc | apply pw_below_drewN | apply below_drew1 | refine below_set ?_ (IsS49.ge HI0.out)) | exact HB.out)⟩⟩
 case rest =>
  clear HC2
  try clear p2
  try clear c7
  try clear c7b0
  obtain ⟨kq, x41_1, rfl, HA, HJ1, HI0, HK, HB⟩ := hcut
  cases kq with
  | zero => exact absurd HA.out (by simp [probe_cluster_result.j0])
  | succ kj1 =>
   have H := HA.out
   clear HA
   simp only [probe_cluster_result.j0] at H
   by_cases c10 : x41_1 = true
   ·subst c10
    have H1 : (some (0, s0_0, s0_1, s0_2, s0_3, s0_4, s0_5, s0_6, s0_7, s0_8, s0_9, s0_10)) = some (r1, r2, r3, r4, r5, r6, r7, r8, r9, r10, r11, r12) := by rw [if_pos rfl] at H; exact H
    clear H
    have H := H1
    clear H1
    simp only [Option.some.injEq, Prod.mk.injEq] at H
    obtain ⟨rfl, rfl, rfl, rfl, rfl, rfl, rfl, rfl, rfl, rfl, rfl, rfl⟩ := H
    go_wp2
    go_ret
    exact ⟨by first | rfl | (simp [errW_none, errW_some] <;> rfl) | (simp [*, errW_none, errW_some] <;> rfl), by repeat (first | (with_reducible first | exact HI0.out | apply IsS49.alloc | apply IsS49.drewN | apply IsS49.drew | apply IsS49.set_0 | apply IsS49.set_1 | apply IsS49.set_2 | apply IsS49.set_3 | apply IsS49.set_4 | apply IsS49.set_5 | apply IsS49.set_6 | apply IsS49.set_7 | apply IsS49.set_8 | apply IsS49.set_9 | apply IsS49.set_10) | exact HI0.out), by repeat (first | (with_reducible first | exact HB.out | apply below_alloc | apply pw_below_drewN | apply below_drew1 | refine below_set ?_ (IsS49.ge HI0.out)) | exact HB.out), by repeat (first | (with_reducible first | exact HK.out | apply KeepBut.set_ | apply keep_drewN | apply keep_drew | apply keep_alloc) | exact HK.out)⟩
   ·replace c10 := Bool.eq_false_iff.mpr c10
    subst c10
    have H1 : ((units_Rate.f (wrap64 (s0_4 - s0_7)) (wrap64 (s0_6 - s0_5))).bind fun t138 => ((units_Rate.f (wrap64 (s0_4 - s0_10)) (wrap64 (s0_9 - s0_8))).bind fun t139 => (some (mn t138 t139, s0_0, s0_1, s0_2, s0_3, s0_4, s0_5, s0_6, s0_7, s0_8, s0_9, s0_10)))) = some (r1, r2, r3, r4, r5, r6, r7, r8, r9, r10, r11, r12) := by rw [if_neg (show ¬ (false = true) by decide)] at H; exact H
    clear H
    have H := H1
    clear H1
    replace H := Option.bind_eq_some_iff.mp H
    obtain ⟨t138, A110, H⟩ := H
    replace H : ((units_Rate.f (wrap64 (s0_4 - s0_10)) (wrap64 (s0_9 - s0_8))).bind fun t139 => (some (mn t138 t139, s0_0, s0_1, s0_2, s0_3, s0_4, s0_5, s0_6, s0_7, s0_8, s0_9, s0_10))) = some (r1, r2, r3, r4, r5, r6, r7, r8, r9, r10, r11, r12) := H
    have A11 := Aside0.mk A110
    clear A110
    replace H := Option.bind_eq_some_iff.mp H
    obtain ⟨t139, A120, H⟩ := H
    replace H : (some (mn t138 t139, s0_0, s0_1, s0_2, s0_3, s0_4, s0_5, s0_6, s0_7, s0_8, s0_9, s0_10)) = some (r1, r2, r3, r4, r5, r6, r7, r8, r9, r10, r11, r12) := H
    have A12 := Aside0.mk A120
    clear A120
    obtain ⟨ji13, hji13⟩ : ∃ j_ : Int, (mn t138 t139) = j_ := ⟨_, rfl⟩
    replace H : (some (ji13, s0_0, s0_1, s0_2, s0_3, s0_4, s0_5, s0_6, s0_7, s0_8, s0_9, s0_10)) = some (r1, r2, r3, r4, r5, r6, r7, r8, r9, r10, r11, r12) := by first | (rw [hji13] at H; exact H) | (simp only [hji13] at H ⊢; exact H)
    (try rw [hji13] at A11)
    (try rw [hji13] at A12)
    have hji13_ : (if t139 < t138 then t139 else t138) = ji13 := hji13
    simp only [Option.some.injEq, Prod.mk.injEq] at H
    obtain ⟨rfl, rfl, rfl, rfl, rfl, rfl, rfl, rfl, rfl, rfl, rfl, rfl⟩ := H
    try go_wp2
    have n0_ := Aside0.mk (IsS49.drew HI0.out)
    have n1_ := Aside0.mk (keep_drew HK.out)
    have n2_ := Aside0.mk (below_drew1 HB.out)
    clear HI0
    clear HK
    clear HB
    have HI0 := n0_
    have HK := n1_
    have HB := n2_
    clear n0_ n1_ n2_
    refine start_ (n := 40) (S := fun w' => w'.cell? ⟨g, 0, none⟩ = some (.int .i64 s0_0) ∧ w'.cell? ⟨g, 1, none⟩ = some (.int .i64 s0_1) ∧ w'.cell? ⟨g, 2, none⟩ = some (.int .i64 s0_2) ∧ w'.cell? ⟨g, 3, none⟩ = some (.int .i64 s0_3) ∧ w'.cell? ⟨g, 4, none⟩ = some (.int .i64 s0_4) ∧ w'.cell? ⟨g, 5, none⟩ = some (.int .i64 s0_5) ∧ w'.cell? ⟨g, 6, none⟩ = some (.int .i64 s0_6) ∧ w'.cell? ⟨g, 7, none⟩ = some (.int .i64 s0_7) ∧ w'.cell? ⟨g, 8, none⟩ = some (.int .i64 s0_8) ∧ w'.cell? ⟨g, 9, none⟩ = some (.int .i64 s0_9) ∧ w'.cell? ⟨g, 10, none⟩ = some (.int .i64 s0_10)) (ds := []) #[false, false, false, false, false, false, false, false, false, false, false, false, false, false, false, false, false, false, false, false, false, false, false, false, false, false, false, false, false, false, false, false, false, false, false, false, false, false, false, false] (by kernel_rfl) rfl rfl ⟨(IsS49.cell_0 HI0.out), (IsS49.cell_1 HI0.out), (IsS49.cell_2 HI0.out), (IsS49.cell_3 HI0.out), (IsS49.cell_4 HI0.out), (IsS49.cell_5 HI0.out), (IsS49.cell_6 HI0.out), (IsS49.cell_7 HI0.out), (IsS49.cell_8 HI0.out), (IsS49.cell_9 HI0.out), (IsS49.cell_10 HI0.out)⟩ (fun hHeld => ?_); refine with_tabW probe_cluster_result.tab3 probe_cluster_result.bits3 (fun HT_ HW_ => ?_)
    generalize wc.drew = w14 at HI0 HK HB hHeld ⊢
    refine pure_ (i := 0) (N := some 42) (v := ?_) (a' := ?_) #[true, false, false, false, false, false, false, false, false, false, false, false, false, false, false, false, false, false, false, false, false, false, false, false, false, false, false, false, false, false, false, false, false, false, false, false, false, false, false, false] rfl rfl (any_of HT_.out (by kernel_rfl)) (fun _ _ _ h => h) (Or.inl ⟨by rfl, ?_⟩) ?_ ?_
    rotate_left
    ·intro w'
     go_simp
     with_reducible rfl
    rotate_left
    ·simp only [Act.put, List.setIfInBounds_toArray, List.set_cons_zero, List.set_cons_succ, i64_w, i32_w]
     rfl
    refine pure_ (i := 1) (N := some 43) (v := ?_) (a' := ?_) #[true, true, false, false, false, false, false, false, false, false, false, false, false, false, false, false, false, false, false, false, false, false, false, false, false, false, false, false, false, false, false, false, false, false, false, false, false, false, false, false] rfl rfl (any_of HT_.out (by kernel_rfl)) (fun _ _ _ h => h) (Or.inl ⟨by rfl, ?_⟩) ?_ ?_
    rotate_left
    ·intro w'
     go_simp
     with_reducible rfl
    rotate_left
    ·simp only [Act.put, List.setIfInBounds_toArray, List.set_cons_zero, List.set_cons_succ, i64_w, i32_w]
     rfl
    refine pure_ (i := 2) (N := some 44) (v := ?_) (a' := ?_) #[true, true, true, false, false, false, false, false, false, false, false, false, false, false, false, false, false, false, false, false, false, false, false, false, false, false, false, false, false, false, false, false, false, false, false, false, false, false, false, false] rfl rfl (any_of HT_.out (by kernel_rfl)) (fun _ _ _ h => h) (Or.inl ⟨by rfl, ?_⟩) ?_ ?_
    rotate_left
    ·intro w'
     go_simp
     with_reducible rfl
    rotate_left
    ·simp only [Act.put, List.setIfInBounds_toArray, List.set_cons_zero, List.set_cons_succ, i64_w, i32_w]
     rfl
    refine pure_ (i := 4) (N := some 46) (v := ?_) (a' := ?_) #[true, true, true, false, true, false, false, false, false, false, false, false, false, false, false, false, false, false, false, false, false, false, false, false, false, false, false, false, false, false, false, false, false, false, false, false, false, false, false, false] rfl rfl (any_of HT_.out (by kernel_rfl)) (fun _ _ _ h => h) (Or.inl ⟨by rfl, ?_⟩) ?_ ?_
    rotate_left
    ·intro w'
     go_simp
     with_reducible rfl
    rotate_left
    ·simp only [Act.put, List.setIfInBounds_toArray, List.set_cons_zero, List.set_cons_succ, i64_w, i32_w]
     rfl
    refine pure_ (i := 5) (N := some 47) (v := ?_) (a' := ?_) #[true, true, true, false, true, true, false, false, false, false, false, false, false, false, false, false, false, false, false, false, false, false, false, false, false, false, false, false, false, false, false, false, false, false, false, false, false, false, false, false] rfl rfl (any_of HT_.out (by kernel_rfl)) (fun _ _ _ h => h) (Or.inl ⟨by rfl, ?_⟩) ?_ ?_
    rotate_left
    ·intro w'
     go_simp
     with_reducible rfl
    rotate_left
    ·simp only [Act.put, List.setIfInBounds_toArray, List.set_cons_zero, List.set_cons_succ, i64_w, i32_w]
     rfl
    refine pure_ (i := 6) (N := some 48) (v := ?_) (a' := ?_) #[true, true, true, false, true, true, true, false, false, false, false, false, false, false, false, false, false, false, false, false, false, false, false, false, false, false, false, false, false, false, false, false, false, false, false, false, false, false, false, false] rfl rfl (any_of HT_.out (by kernel_rfl)) (fun _ _ _ h => h) (Or.inl ⟨by rfl, ?_⟩) ?_ ?_
    rotate_left
    ·intro w'
     go_simp
     with_reducible rfl
    rotate_left
    ·simp only [Act.put, List.setIfInBounds_toArray, List.set_cons_zero, List.set_cons_succ, i64_w, i32_w]
     rfl
    refine pure_ (i := 9) (N := some 51) (v := ?_) (a' := ?_) #[true, true, true, false, true, true, true, false, false, true, false, false, false, false, false, false, false, false, false, false, false, false, false, false, false, false, false, false, false, false, false, false, false, false, false, false, false, false, false, false] rfl rfl (any_of HT_.out (by kernel_rfl)) (fun _ _ _ h => h) (Or.inl ⟨by rfl, ?_⟩) ?_ ?_
    rotate_left
    ·intro w'
     go_simp
     with_reducible rfl
    rotate_left
    ·simp only [Act.put, List.setIfInBounds_toArray, List.set_cons_zero, List.set_cons_succ, i64_w, i32_w]
     rfl
    refine pure_ (i := 10) (N := some 52) (v := ?_) (a' := ?_) #[true, true, true, false, true, true, true, false, false, true, true, false, false, false, false, false, false, false, false, false, false, false, false, false, false, false, false, false, false, false, false, false, false, false, false, false, false, false, false, false] rfl rfl (any_of HT_.out (by kernel_rfl)) (fun _ _ _ h => h) (Or.inl ⟨by rfl, ?_⟩) ?_ ?_
    rotate_left
    ·intro w'
     go_simp
     with_reducible rfl
    rotate_left
    ·simp only [Act.put, List.setIfInBounds_toArray, List.set_cons_zero, List.set_cons_succ, i64_w, i32_w]
     rfl
    refine pure_ (i := 11) (N := some 53) (v := ?_) (a' := ?_) #[true, true, true, false, true, true, true, false, false, true, true, true, false, false, false, false, false, false, false, false, false, false, false, false, false, false, false, false, false, false, false, false, false, false, false, false, false, false, false, false] rfl rfl (any_of HT_.out (by kernel_rfl)) (fun _ _ _ h => h) (Or.inl ⟨by rfl, ?_⟩) ?_ ?_
    rotate_left
    ·intro w'
     go_simp
     with_reducible rfl
    rotate_left
    ·simp only [Act.put, List.setIfInBounds_toArray, List.set_cons_zero, List.set_cons_succ, i64_w, i32_w]
     rfl
    refine pure_ (i := 13) (N := some 55) (v := ?_) (a' := ?_) #[true, true, true, false, true, true, true, false, false, true, true, true, false, true, false, false, false, false, false, false, false, false, false, false, false, false, false, false, false, false, false, false, false, false, false, false, false, false, false, false] rfl rfl (any_of HT_.out (by kernel_rfl)) (fun _ _ _ h => h) (Or.inl ⟨by rfl, ?_⟩) ?_ ?_
    rotate_left
    ·intro w'
     go_simp
     with_reducible rfl
    rotate_left
    ·simp only [Act.put, List.setIfInBounds_toArray, List.set_cons_zero, List.set_cons_succ, i64_w, i32_w]
     rfl
    refine pure_ (i := 14) (N := some 56) (v := ?_) (a' := ?_) #[true, true, true, false, true, true, true, false, false, true, true, true, false, true, true, false, false, false, false, false, false, false, false, false, false, false, false, false, false, false, false, false, false, false, false, false, false, false, false, false] rfl rfl (any_of HT_.out (by kernel_rfl)) (fun _ _ _ h => h) (Or.inl ⟨by rfl, ?_⟩) ?_ ?_
    rotate_left
    ·intro w'
     go_simp
     with_reducible rfl
    rotate_left
    ·simp only [Act.put, List.setIfInBounds_toArray, List.set_cons_zero, List.set_cons_succ, i64_w, i32_w]
     rfl
    refine pure_ (i := 15) (N := some 57) (v := ?_) (a' := ?_) #[true, true, true, false, true, true, true, false, false, true, true, true, false, true, true, true, false, false, false, false, false, false, false, false, false, false, false, false, false, false, false, false, false, false, false, false, false, false, false, false] rfl rfl (any_of HT_.out (by kernel_rfl)) (fun _ _ _ h => h) (Or.inl ⟨by rfl, ?_⟩) ?_ ?_
    rotate_left
    ·intro w'
     go_simp
     with_reducible rfl
    rotate_left
    ·simp only [Act.put, List.setIfInBounds_toArray, List.set_cons_zero, List.set_cons_succ, i64_w, i32_w]
     rfl
    refine pure_ (i := 19) (N := some 61) (v := ?_) (a' := ?_) #[true, true, true, false, true, true, true, false, false, true, true, true, false, true, true, true, false, false, false, true, false, false, false, false, false, false, false, false, false, false, false, false, false, false, false, false, false, false, false, false] rfl rfl (any_of HT_.out (by kernel_rfl)) (fun _ _ _ h => h) (Or.inl ⟨by rfl, ?_⟩) ?_ ?_
    rotate_left
    ·intro w'
     go_simp
     with_reducible rfl
    rotate_left
    ·simp only [Act.put, List.setIfInBounds_toArray, List.set_cons_zero, List.set_cons_succ, i64_w, i32_w]
     rfl
    refine pure_ (i := 20) (N := some 62) (v := ?_) (a' := ?_) #[true, true, true, false, true, true, true, false, false, true, true, true, false, true, true, true, false, false, false, true, true, false, false, false, false, false, false, false, false, false, false, false, false, false, false, false, false, false, false, false] rfl rfl (any_of HT_.out (by kernel_rfl)) (fun _ _ _ h => h) (Or.inl ⟨by rfl, ?_⟩) ?_ ?_
    rotate_left
    ·intro w'
     go_simp
     with_reducible rfl
    rotate_left
    ·simp only [Act.put, List.setIfInBounds_toArray, List.set_cons_zero, List.set_cons_succ, i64_w, i32_w]
     rfl
    refine pure_ (i := 21) (N := some 63) (v := ?_) (a' := ?_) #[true, true, true, false, true, true, true, false, false, true, true, true, false, true, true, true, false, false, false, true, true, true, false, false, false, false, false, false, false, false, false, false, false, false, false, false, false, false, false, false] rfl rfl (any_of HT_.out (by kernel_rfl)) (fun _ _ _ h => h) (Or.inl ⟨by rfl, ?_⟩) ?_ ?_
    rotate_left
    ·intro w'
     go_simp
     with_reducible rfl
    rotate_left
    ·simp only [Act.put, List.setIfInBounds_toArray, List.set_cons_zero, List.set_cons_succ, i64_w, i32_w]
     rfl
    refine pure_ (i := 23) (N := some 65) (v := ?_) (a' := ?_) #[true, true, true, false, true, true, true, false, false, true, true, true, false, true, true, true, false, false, false, true, true, true, false, true, false, false, false, false, false, false, false, false, false, false, false, false, false, false, false, false] rfl rfl (any_of HT_.out (by kernel_rfl)) (fun _ _ _ h => h) (Or.inl ⟨by rfl, ?_⟩) ?_ ?_
    rotate_left
    ·intro w'
     go_simp
     with_reducible rfl
    rotate_left
    ·simp only [Act.put, List.setIfInBounds_toArray, List.set_cons_zero, List.set_cons_succ, i64_w, i32_w]
     rfl
    refine pure_ (i := 24) (N := some 66) (v := ?_) (a' := ?_) #[true, true, true, false, true, true, true, false, false, true, true, true, false, true, true, true, false, false, false, true, true, true, false, true, true, false, false, false, false, false, false, false, false, false, false, false, false, false, false, false] rfl rfl (any_of HT_.out (by kernel_rfl)) (fun _ _ _ h => h) (Or.inl ⟨by rfl, ?_⟩) ?_ ?_
    rotate_left
    ·intro w'
     go_simp
     with_reducible rfl
    rotate_left
    ·simp only [Act.put, List.setIfInBounds_toArray, List.set_cons_zero, List.set_cons_succ, i64_w, i32_w]
     rfl
    refine pure_ (i := 25) (N := some 67) (v := ?_) (a' := ?_) #[true, true, true, false, true, true, true, false, false, true, true, true, false, true, true, true, false, false, false, true, true, true, false, true, true, true, false, false, false, false, false, false, false, false, false, false, false, false, false, false] rfl rfl (any_of HT_.out (by kernel_rfl)) (fun _ _ _ h => h) (Or.inl ⟨by rfl, ?_⟩) ?_ ?_
    rotate_left
    ·intro w'
     go_simp
     with_reducible rfl
    rotate_left
    ·simp only [Act.put, List.setIfInBounds_toArray, List.set_cons_zero, List.set_cons_succ, i64_w, i32_w]
     rfl
    refine pure_ (i := 28) (N := some 70) (v := ?_) (a' := ?_) #[true, true, true, false, true, true, true, false, false, true, true, true, false, true, true, true, false, false, false, true, true, true, false, true, true, true, false, false, true, false, false, false, false, false, false, false, false, false, false, false] rfl rfl (any_of HT_.out (by kernel_rfl)) (fun _ _ _ h => h) (Or.inl ⟨by rfl, ?_⟩) ?_ ?_
    rotate_left
    ·intro w'
     go_simp
     with_reducible rfl
    rotate_left
    ·simp only [Act.put, List.setIfInBounds_toArray, List.set_cons_zero, List.set_cons_succ, i64_w, i32_w]
     rfl
    refine pure_ (i := 29) (N := some 71) (v := ?_) (a' := ?_) #[true, true, true, false, true, true, true, false, false, true, true, true, false, true, true, true, false, false, false, true, true, true, false, true, true, true, false, false, true, true, false, false, false, false, false, false, false, false, false, false] rfl rfl (any_of HT_.out (by kernel_rfl)) (fun _ _ _ h => h) (Or.inl ⟨by rfl, ?_⟩) ?_ ?_
    rotate_left
    ·intro w'
     go_simp
     with_reducible rfl
    rotate_left
    ·simp only [Act.put, List.setIfInBounds_toArray, List.set_cons_zero, List.set_cons_succ, i64_w, i32_w]
     rfl
    refine pure_ (i := 30) (N := some 72) (v := ?_) (a' := ?_) #[true, true, true, false, true, true, true, false, false, true, true, true, false, true, true, true, false, false, false, true, true, true, false, true, true, true, false, false, true, true, true, false, false, false, false, false, false, false, false, false] rfl rfl (any_of HT_.out (by kernel_rfl)) (fun _ _ _ h => h) (Or.inl ⟨by rfl, ?_⟩) ?_ ?_
    rotate_left
    ·intro w'
     go_simp
     with_reducible rfl
    rotate_left
    ·simp only [Act.put, List.setIfInBounds_toArray, List.set_cons_zero, List.set_cons_succ, i64_w, i32_w]
     rfl
    refine pure_ (i := 32) (N := some 74) (v := ?_) (a' := ?_) #[true, true, true, false, true, true, true, false, false, true, true, true, false, true, true, true, false, false, false, true, true, true, false, true, true, true, false, false, true, true, true, false, true, false, false, false, false, false, false, false] rfl rfl (any_of HT_.out (by kernel_rfl)) (fun _ _ _ h => h) (Or.inl ⟨by rfl, ?_⟩) ?_ ?_
    rotate_left
    ·intro w'
     go_simp
     with_reducible rfl
    rotate_left
    ·simp only [Act.put, List.setIfInBounds_toArray, List.set_cons_zero, List.set_cons_succ, i64_w, i32_w]
     rfl
    refine pure_ (i := 33) (N := some 75) (v := ?_) (a' := ?_) #[true, true, true, false, true, true, true, false, false, true, true, true, false, true, true, true, false, false, false, true, true, true, false, true, true, true, false, false, true, true, true, false, true, true, false, false, false, false, false, false] rfl rfl (any_of HT_.out (by kernel_rfl)) (fun _ _ _ h => h) (Or.inl ⟨by rfl, ?_⟩) ?_ ?_
    rotate_left
    ·intro w'
     go_simp
     with_reducible rfl
    rotate_left
    ·simp only [Act.put, List.setIfInBounds_toArray, List.set_cons_zero, List.set_cons_succ, i64_w, i32_w]
     rfl
    refine pure_ (i := 34) (N := some 76) (v := ?_) (a' := ?_) #[true, true, true, false, true, true, true, false, false, true, true, true, false, true, true, true, false, false, false, true, true, true, false, true, true, true, false, false, true, true, true, false, true, true, true, false, false, false, false, false] rfl rfl (any_of HT_.out (by kernel_rfl)) (fun _ _ _ h => h) (Or.inl ⟨by rfl, ?_⟩) ?_ ?_
    rotate_left
    ·intro w'
     go_simp
     with_reducible rfl
    rotate_left
    ·simp only [Act.put, List.setIfInBounds_toArray, List.set_cons_zero, List.set_cons_succ, i64_w, i32_w]
     rfl
    refine take_ (i := 3) (N := some 45) (v := ?_) (a' := ?_) #[true, true, true, true, true, true, true, false, false, true, true, true, false, true, true, true, false, false, false, true, true, true, false, true, true, true, false, false, true, true, true, false, true, true, true, false, false, false, false, false] rfl rfl (take_ofW HT_.out HW_.out (by kernel_rfl)) (fun _ _ _ h => h) (Or.inl ⟨by rfl, ?_⟩) hHeld ?_ ?_
    rotate_left
    ·rintro w' ⟨s0, s1, s2, s3, s4, s5, s6, s7, s8, s9, s10⟩
     go_simp
     with_reducible rfl
    rotate_left
    ·simp only [Act.put, List.setIfInBounds_toArray, List.set_cons_zero, List.set_cons_succ, i64_w, i32_w]
     rfl
    refine take_ (i := 7) (N := some 49) (v := ?_) (a' := ?_) #[true, true, true, true, true, true, true, true, false, true, true, true, false, true, true, true, false, false, false, true, true, true, false, true, true, true, false, false, true, true, true, false, true, true, true, false, false, false, false, false] rfl rfl (take_ofW HT_.out HW_.out (by kernel_rfl)) (fun _ _ _ h => h) (Or.inl ⟨by rfl, ?_⟩) hHeld ?_ ?_
    rotate_left
    ·rintro w' ⟨s0, s1, s2, s3, s4, s5, s6, s7, s8, s9, s10⟩
     go_simp
     with_reducible rfl
    rotate_left
    ·simp only [Act.put, List.setIfInBounds_toArray, List.set_cons_zero, List.set_cons_succ, i64_w, i32_w]
     rfl
    refine pure_ (i := 8) (N := some 50) (v := ?_) (a' := ?_) #[true, true, true, true, true, true, true, true, true, true, true, true, false, true, true, true, false, false, false, true, true, true, false, true, true, true, false, false, true, true, true, false, true, true, true, false, false, false, false, false] rfl rfl (any_of HT_.out (by kernel_rfl)) (fun _ _ _ h => h) (Or.inl ⟨by rfl, ?_⟩) ?_ ?_
    rotate_left
    ·intro w'
     go_simp
     with_reducible rfl
    rotate_left
    ·simp only [Act.put, List.setIfInBounds_toArray, List.set_cons_zero, List.set_cons_succ, i64_w, i32_w]
     rfl
    refine take_ (i := 12) (N := some 54) (v := ?_) (a' := ?_) #[true, true, true, true, true, true, true, true, true, true, true, true, true, true, true, true, false, false, false, true, true, true, false, true, true, true, false, false, true, true, true, false, true, true, true, false, false, false, false, false] rfl rfl (take_ofW HT_.out HW_.out (by kernel_rfl)) (fun _ _ _ h => h) (Or.inl ⟨by rfl, ?_⟩) hHeld ?_ ?_
    rotate_left
    ·rintro w' ⟨s0, s1, s2, s3, s4, s5, s6, s7, s8, s9, s10⟩
     go_simp
     with_reducible rfl
    rotate_left
    ·simp only [Act.put, List.setIfInBounds_toArray, List.set_cons_zero, List.set_cons_succ, i64_w, i32_w]
     rfl
    refine take_ (i := 16) (N := some 58) (v := ?_) (a' := ?_) #[true, true, true, true, true, true, true, true, true, true, true, true, true, true, true, true, true, false, false, true, true, true, false, true, true, true, false, false, true, true, true, false, true, true, true, false, false, false, false, false] rfl rfl (take_ofW HT_.out HW_.out (by kernel_rfl)) (fun _ _ _ h => h) (Or.inl ⟨by rfl, ?_⟩) hHeld ?_ ?_
    rotate_left
    ·rintro w' ⟨s0, s1, s2, s3, s4, s5, s6, s7, s8, s9, s10⟩
     go_simp
     with_reducible rfl
    rotate_left
    ·simp only [Act.put, List.setIfInBounds_toArray, List.set_cons_zero, List.set_cons_succ, i64_w, i32_w]
     rfl
    refine pure_ (i := 17) (N := some 59) (v := ?_) (a' := ?_) #[true, true, true, true, true, true, true, true, true, true, true, true, true, true, true, true, true, true, false, true, true, true, false, true, true, true, false, false, true, true, true, false, true, true, true, false, false, false, false, false] rfl rfl (any_of HT_.out (by kernel_rfl)) (fun _ _ _ h => h) (Or.inl ⟨by rfl, ?_⟩) ?_ ?_
    rotate_left
    ·intro w'
     go_simp
     with_reducible rfl
    rotate_left
    ·simp only [Act.put, List.setIfInBounds_toArray, List.set_cons_zero, List.set_cons_succ, i64_w, i32_w]
     rfl
    refine take_ (i := 22) (N := some 64) (v := ?_) (a' := ?_) #[true, true, true, true, true, true, true, true, true, true, true, true, true, true, true, true, true, true, false, true, true, true, true, true, true, true, false, false, true, true, true, false, true, true, true, false, false, false, false, false] rfl rfl (take_ofW HT_.out HW_.out (by kernel_rfl)) (fun _ _ _ h => h) (Or.inl ⟨by rfl, ?_⟩) hHeld ?_ ?_
    rotate_left
    ·rintro w' ⟨s0, s1, s2, s3, s4, s5, s6, s7, s8, s9, s10⟩
     go_simp
     with_reducible rfl
    rotate_left
    ·simp only [Act.put, List.setIfInBounds_toArray, List.set_cons_zero, List.set_cons_succ, i64_w, i32_w]
     rfl
    refine take_ (i := 26) (N := some 68) (v := ?_) (a' := ?_) #[true, true, true, true, true, true, true, true, true, true, true, true, true, true, true, true, true, true, false, true, true, true, true, true, true, true, true, false, true, true, true, false, true, true, true, false, false, false, false, false] rfl rfl (take_ofW HT_.out HW_.out (by kernel_rfl)) (fun _ _ _ h => h) (Or.inl ⟨by rfl, ?_⟩) hHeld ?_ ?_
    rotate_left
    ·rintro w' ⟨s0, s1, s2, s3, s4, s5, s6, s7, s8, s9, s10⟩
     go_simp
     with_reducible rfl
    rotate_left
    ·simp only [Act.put, List.setIfInBounds_toArray, List.set_cons_zero, List.set_cons_succ, i64_w, i32_w]
     rfl
    refine pure_ (i := 27) (N := some 69) (v := ?_) (a' := ?_) #[true, true, true, true, true, true, true, true, true, true, true, true, true, true, true, true, true, true, false, true, true, true, true, true, true, true, true, true, true, true, true, false, true, true, true, false, false, false, false, false] rfl rfl (any_of HT_.out (by kernel_rfl)) (fun _ _ _ h => h) (Or.inl ⟨by rfl, ?_⟩) ?_ ?_
    rotate_left
    ·intro w'
     go_simp
     with_reducible rfl
    rotate_left
    ·simp only [Act.put, List.setIfInBounds_toArray, List.set_cons_zero, List.set_cons_succ, i64_w, i32_w]
     rfl
    refine take_ (i := 31) (N := some 73) (v := ?_) (a' := ?_) #[true, true, true, true, true, true, true, true, true, true, true, true, true, true, true, true, true, true, false, true, true, true, true, true, true, true, true, true, true, true, true, true, true, true, true, false, false, false, false, false] rfl rfl (take_ofW HT_.out HW_.out (by kernel_rfl)) (fun _ _ _ h => h) (Or.inl ⟨by rfl, ?_⟩) hHeld ?_ ?_
    rotate_left
    ·rintro w' ⟨s0, s1, s2, s3, s4, s5, s6, s7, s8, s9, s10⟩
     go_simp
     with_reducible rfl
    rotate_left
    ·simp only [Act.put, List.setIfInBounds_toArray, List.set_cons_zero, List.set_cons_succ, i64_w, i32_w]
     rfl
    refine take_ (i := 35) (N := some 77) (v := ?_) (a' := ?_) #[true, true, true, true, true, true, true, true, true, true, true, true, true, true, true, true, true, true, false, true, true, true, true, true, true, true, true, true, true, true, true, true, true, true, true, true, false, false, false, false] rfl rfl (take_ofW HT_.out HW_.out (by kernel_rfl)) (fun _ _ _ h => h) (Or.inl ⟨by rfl, ?_⟩) hHeld ?_ ?_
    rotate_left
    ·rintro w' ⟨s0, s1, s2, s3, s4, s5, s6, s7, s8, s9, s10⟩
     go_simp
     with_reducible rfl
    rotate_left
    ·simp only [Act.put, List.setIfInBounds_toArray, List.set_cons_zero, List.set_cons_succ, i64_w, i32_w]
     rfl
    refine pure_ (i := 36) (N := some 78) (v := ?_) (a' := ?_) #[true, true, true, true, true, true, true, true, true, true, true, true, true, true, true, true, true, true, false, true, true, true, true, true, true, true, true, true, true, true, true, true, true, true, true, true, true, false, false, false] rfl rfl (any_of HT_.out (by kernel_rfl)) (fun _ _ _ h => h) (Or.inl ⟨by rfl, ?_⟩) ?_ ?_
    rotate_left
    ·intro w'
     go_simp
     with_reducible rfl
    rotate_left
    ·simp only [Act.put, List.setIfInBounds_toArray, List.set_cons_zero, List.set_cons_succ, i64_w, i32_w]
     rfl
    refine one_ (i := 18) (N := some 60) #[true, true, true, true, true, true, true, true, true, true, true, true, true, true, true, true, true, true, true, true, true, true, true, true, true, true, true, true, true, true, true, true, true, true, true, true, true, false, false, false] rfl rfl (one_of HT_.out (by kernel_rfl)) (by decide) (fun K hK => ?_)
    refine goes_ Try.func27 (by kernel_rfl) rfl #[.int .i64 (wrap64 (s0_4 - s0_7)), .int .i64 (wrap64 (s0_6 - s0_5))] (by rfl) rfl rfl (by (try simp only [List.map_toArray, List.map_cons, List.map_nil]); first | done | rfl | (simp only [List.length_drop, List.length_take]; rfl)) ?_
    with_reducible refine (units_Rate.calls (wrap64 (s0_4 - s0_7)) (wrap64 (s0_6 - s0_5)) t138 _ A11.out).mono ?_
    rintro e w15 ⟨rfl, hb⟩
    refine ⟨_, rfl, ?_⟩
    have n0_ := Aside0.mk (IsS49.below (by repeat (first | (with_reducible first | exact HI0.out | apply IsS49.alloc | apply IsS49.drewN | apply IsS49.drew | apply IsS49.set_0 | apply IsS49.set_1 | apply IsS49.set_2 | apply IsS49.set_3 | apply IsS49.set_4 | apply IsS49.set_5 | apply IsS49.set_6 | apply IsS49.set_7 | apply IsS49.set_8 | apply IsS49.set_9 | apply IsS49.set_10) | exact HI0.out)) hb)
    have n1_ := Aside0.mk (KeepBut.trans (by repeat (first | (with_reducible first | exact HK.out | apply KeepBut.set_ | apply keep_drewN | apply keep_drew | apply keep_alloc) | exact HK.out)) (KeepBut.of_below hb g none) (.inl rfl))
    have n2_ := Aside0.mk (below_step (by repeat (first | (with_reducible first | exact HB.out | apply below_alloc | apply pw_below_drewN | apply below_drew1 | refine below_set ?_ (IsS49.ge HI0.out)) | exact HB.out)) hb)
    clear HI0
    clear HK
    clear HB
    have HI0 := n0_
    have HK := n1_
    have HB := n2_
    clear n0_ n1_ n2_
    (try clear hb)
    (try clear hb2)
    (try clear hk)
    (try clear hi)
    refine hK.out _ _ ⟨(IsS49.cell_0 HI0.out), (IsS49.cell_1 HI0.out), (IsS49.cell_2 HI0.out), (IsS49.cell_3 HI0.out), (IsS49.cell_4 HI0.out), (IsS49.cell_5 HI0.out), (IsS49.cell_6 HI0.out), (IsS49.cell_7 HI0.out), (IsS49.cell_8 HI0.out), (IsS49.cell_9 HI0.out), (IsS49.cell_10 HI0.out)⟩ (fun hHeld => ?_)
    clear hK K
    refine norm_ (a' := ?_) ?_ ?_
    rotate_left
    ·show Act.put _ (some 60) _ = _
     simp only [Act.put, List.setIfInBounds_toArray, List.set_cons_zero, List.set_cons_succ, i64_w, i32_w]
     rfl
    refine one_ (i := 37) (N := some 79) #[true, true, true, true, true, true, true, true, true, true, true, true, true, true, true, true, true, true, true, true, true, true, true, true, true, true, true, true, true, true, true, true, true, true, true, true, true, true, false, false] rfl rfl (one_of HT_.out (by kernel_rfl)) (by decide) (fun K hK => ?_)
    refine goes_ Try.func27 (by kernel_rfl) rfl #[.int .i64 (wrap64 (s0_4 - s0_10)), .int .i64 (wrap64 (s0_9 - s0_8))] (by rfl) rfl rfl (by (try simp only [List.map_toArray, List.map_cons, List.map_nil]); first | done | rfl | (simp only [List.length_drop, List.length_take]; rfl)) ?_
    with_reducible refine (units_Rate.calls (wrap64 (s0_4 - s0_10)) (wrap64 (s0_9 - s0_8)) t139 _ A12.out).mono ?_
    rintro e w16 ⟨rfl, hb⟩
    refine ⟨_, rfl, ?_⟩
    have n0_ := Aside0.mk (IsS49.below (by repeat (first | (with_reducible first | exact HI0.out | apply IsS49.alloc | apply IsS49.drewN | apply IsS49.drew | apply IsS49.set_0 | apply IsS49.set_1 | apply IsS49.set_2 | apply IsS49.set_3 | apply IsS49.set_4 | apply IsS49.set_5 | apply IsS49.set_6 | apply IsS49.set_7 | apply IsS49.set_8 | apply IsS49.set_9 | apply IsS49.set_10) | exact HI0.out)) hb)
    have n1_ := Aside0.mk (KeepBut.trans (by repeat (first | (with_reducible first | exact HK.out | apply KeepBut.set_ | apply keep_drewN | apply keep_drew | apply keep_alloc) | exact HK.out)) (KeepBut.of_below hb g none) (.inl rfl))
    have n2_ := Aside0.mk (below_step (by repeat (first | (with_reducible first | exact HB.out | apply below_alloc | apply pw_below_drewN | apply below_drew1 | refine below_set ?_ (IsS49.ge HI0.out)) | exact HB.out)) hb)
    clear HI0
    clear HK
    clear HB
    have HI0 := n0_
    have HK := n1_
    have HB := n2_
    clear n0_ n1_ n2_
    (try clear hb)
    (try clear hb2)
    (try clear hk)
    (try clear hi)
    refine hK.out _ _ ⟨(IsS49.cell_0 HI0.out), (IsS49.cell_1 HI0.out), (IsS49.cell_2 HI0.out), (IsS49.cell_3 HI0.out), (IsS49.cell_4 HI0.out), (IsS49.cell_5 HI0.out), (IsS49.cell_6 HI0.out), (IsS49.cell_7 HI0.out), (IsS49.cell_8 HI0.out), (IsS49.cell_9 HI0.out), (IsS49.cell_10 HI0.out)⟩ (fun hHeld => ?_)
    clear hK K
    refine norm_ (a' := ?_) ?_ ?_
    rotate_left
    ·show Act.put _ (some 79) _ = _
     simp only [Act.put, List.setIfInBounds_toArray, List.set_cons_zero, List.set_cons_succ, i64_w, i32_w]
     rfl
    refine pure_ (i := 38) (N := some 80) (v := ?_) (a' := ?_) #[true, true, true, true, true, true, true, true, true, true, true, true, true, true, true, true, true, true, true, true, true, true, true, true, true, true, true, true, true, true, true, true, true, true, true, true, true, true, true, false] rfl rfl (any_of HT_.out (by kernel_rfl)) (fun _ _ _ h => h) (Or.inl ⟨by rfl, ?_⟩) ?_ ?_
    rotate_left
    ·intro w'
     go_simp
     with_reducible rfl
    rotate_left
    ·simp only [Act.put, List.setIfInBounds_toArray, List.set_cons_zero, List.set_cons_succ, i64_w, i32_w]
     rfl
    refine pure_ (i := 39) (N := some 2) (v := ?_) (a' := ?_) #[true, true, true, true, true, true, true, true, true, true, true, true, true, true, true, true, true, true, true, true, true, true, true, true, true, true, true, true, true, true, true, true, true, true, true, true, true, true, true, true] rfl rfl (any_of HT_.out (by kernel_rfl)) (fun _ _ _ h => h) (Or.inl ⟨by rfl, ?_⟩) ?_ ?_
    rotate_left
    ·intro w'
     go_simp
     with_reducible rfl
    rotate_left
    ·simp only [Act.put, List.setIfInBounds_toArray, List.set_cons_zero, List.set_cons_succ, i64_w, i32_w]
     rfl
    refine done_ (done_of HT_.out (by kernel_rfl)) ?_
    try go_wp2
    go_ret
    exact ⟨by first | rfl | (simp [errW_none, errW_some] <;> rfl) | (simp only [← hji13]; first | rfl | (simp [errW_none, errW_some] <;> rfl)) | (simp [*, errW_none, errW_some] <;> rfl), by repeat (first | (with_reducible first | exact HI0.out | apply IsS49.alloc | apply IsS49.drewN | apply IsS49.drew | apply IsS49.set_0 | apply IsS49.set_1 | apply IsS49.set_2 | apply IsS49.set_3 | apply IsS49.set_4 | apply IsS49.set_5 | apply IsS49.set_6 | apply IsS49.set_7 | apply IsS49.set_8 | apply IsS49.set_9 | apply IsS49.set_10) | exact HI0.out), by repeat (first | (with_reducible first | exact HB.out | apply below_alloc | apply pw_below_drewN | apply below_drew1 | refine below_set ?_ (IsS49.ge HI0.out)) | exact HB.out), by repeat (first | (with_reducible first | exact HK.out | apply KeepBut.set_ | apply keep_drewN | apply keep_drew | apply keep_alloc) | exact HK.out)⟩
end Go.Proofs.Ytdddpmmpfemibaa.P
end

section
namespace Go.Proofs.Ytdddpmmpfemibaa.P
open Go.RowKit Go.Proofs.YtdddpmmpfemibaaW.PrintWords Go.Proofs.YtdddpmmpfemibaaW.PrintLast Go.Proofs.YtdddpmmpfemibaaW.PrintMore
attribute [local go_sem] max2_int min2_int max_two min_two max_three min_three max_four min_four   -- for this text's walks alone
set_option linter.unusedVariables false
set_option linter.unusedSimpArgs false
theorem PF.res {w0 w W W1 : World} {g m c : Nat} {f0 f1 f2 : Int} {K : List (Int × Nat)} {R1 R2 : List (Nat × Array Value)} {cs : Array Value} {x0 : Int} {x1 : Int} {x2 : Int} {x3 : Int} {x4 : Int} {x5 : Int} {x6 : Int} {x7 : Int} {x8 : Int} {x9 : Int} {x10 : Int} (h : PF w0 w W g m f0 f1 f2 K (R1 ++ (c, cs) :: R2)) (hi : IsS49 w0 W1 c x0 x1 x2 x3 x4 x5 x6 x7 x8 x9 x10) (hb : Below w0.heap.size w0 W1) (hk : KeepBut W W1 c none) : PF w0 w W1 g m f0 f1 f2 K (R1 ++ (c, #[.int .i64 x0, .int .i64 x1, .int .i64 x2, .int .i64 x3, .int .i64 x4, .int .i64 x5, .int .i64 x6, .int .i64 x7, .int .i64 x8, .int .i64 x9, .int .i64 x10]) :: R2) := by
 obtain ⟨h0, _, hkt⟩ := h
 have n1 := h0.ne_gq _ mid_mem; have n2 := h0.ne_mq _ mid_mem
 refine ⟨⟨(hk.2 g (blk_lt h0.blk) (Ne.symm n1) (by simp)).trans h0.blk, h0.ge, h0.mp.same (fun es cl e => (hk.2 m (blk_lt e) n2 (by simp)).trans e), h0.mge, fun q hq => ?_, by simpa using h0.nd⟩, hb, Nat.le_trans hkt.1 hk.1, fun i cs' t fr hi' q1 q2 => ?_⟩
 ·rcases List.mem_append.1 hq with hq | hq
  ·have e := (h0.oth q (by simp [hq])).1
   exact ⟨(hk.2 q.1 (blk_lt e) (h0.other q (.inl hq)) (by simp)).trans e, (h0.oth q (by simp [hq])).2⟩
  ·rcases List.mem_cons.1 hq with rfl | hq
   ·exact ⟨hi.1, h0.cge⟩
   ·have e := (h0.oth q (by simp [hq])).1
    exact ⟨(hk.2 q.1 (blk_lt e) (h0.other q (.inr hq)) (by simp)).trans e, (h0.oth q (by simp [hq])).2⟩
 ·have hh := hkt.2 i cs' t fr hi' q1 q2
  exact (hk.2 i (blk_lt hh) (fun e => by subst e; rw [h0.cb] at hh; injection hh with hh; injection hh with _ hh; exact q2 hh.symm) (by simp)).trans hh
def gotu (k : Nat) (s0_0 : PbS) (x : Clu) (a1 a2 a3 a4 to_ ls ea fs fr la : Int) : Option (Int × PbS) := (some (mn fr a3)).bind fun fr2 => (some (mx la a4)).bind fun la2 => (some (wrap64 (x.c3 + 1))).bind fun cn => (some (wrap64 (x.c4 + a2))).bind fun by_ => (probe_cluster_result.f k x.c0 x.c1 x.c2 cn by_ fr2 to_ ls ea la2 fs).bind fun b => (some (mx s0_0.b b.1)).bind fun b2 => some (b.1, ⟨s0_0.n, s0_0.o, b2, up s0_0.l a1 ⟨b.2.1, b.2.2.1, b.2.2.2.1, b.2.2.2.2.1, b.2.2.2.2.2.1, b.2.2.2.2.2.2.1, b.2.2.2.2.2.2.2.1, b.2.2.2.2.2.2.2.2.1, b.2.2.2.2.2.2.2.2.2.1, b.2.2.2.2.2.2.2.2.2.2.1, b.2.2.2.2.2.2.2.2.2.2.2⟩⟩)
def probe_Probe_Got.f (k : Nat) (s0_0 : PbS) (a1 : Int) (a2 : Int) (a3 : Int) (a4 : Int) : Option (Int × PbS) := (probe_good.f a2 a3).bind fun t => (if t = true then (if a4 < -1125899906842624 then some (0, s0_0) else (if 1125899906842624 < a4 then some (0, s0_0) else (if lk s0_0.l a1 = none then some (0, s0_0) else ((lk s0_0.l a1).bind fun x => (if x.c3 = 0 then gotu k s0_0 x a1 a2 a3 a4 a3 a2 a4 a2 a3 a4 else (if x.c6 ≤ a3 then (if a4 < x.c8 then gotu k s0_0 x a1 a2 a3 a4 a3 a2 a4 a2 x.c5 x.c9 else gotu k s0_0 x a1 a2 a3 a4 a3 a2 x.c8 x.c10 x.c5 x.c9) else (if a4 < x.c8 then gotu k s0_0 x a1 a2 a3 a4 x.c6 x.c7 a4 a2 x.c5 x.c9 else gotu k s0_0 x a1 a2 a3 a4 x.c6 x.c7 x.c8 x.c10 x.c5 x.c9))))))) else some (0, s0_0))
theorem gotu.mono : ∀ s0_0 x a1 a2 a3 a4 to_ ls ea fs fr la k, LeO (gotu k s0_0 x a1 a2 a3 a4 to_ ls ea fs fr la) (gotu (k + 1) s0_0 x a1 a2 a3 a4 to_ ls ea fs fr la) := by
 intros
 unfold gotu
 exact LeO.bind (LeO.refl _) (fun _ => LeO.bind (LeO.refl _) (fun _ => LeO.bind (LeO.refl _) (fun _ => LeO.bind (LeO.refl _) (fun _ => LeO.bind (probe_cluster_result.mono _ _ _ _ _ _ _ _ _ _ _ _) (fun _ => LeO.refl _)))))
def probe_Probe_Got.T13 : Bool × List (List Nat × List Nat) := (true, [([], []), ([], []), ([], []), ([2], [2]), ([3], [3]), ([4], [4]), ([], []), ([5, 6], [5, 6]), ([], []), ([8], [8]), ([9], [9]), ([10], [10]), ([], []), ([11, 12], [11, 12]), ([0, 0, 2, 3, 4, 5, 6, 7, 11], [0]), ([14, 0, 2, 3, 4, 5, 6, 7, 11], [14]), ([15, 7, 0, 2, 3, 4, 5, 6, 7, 11], [7, 15]), ([1, 0, 1, 2, 3, 4, 5, 6, 7, 8, 9, 10, 11, 12, 13, 14, 15, 16], [1]), ([17, 0, 1, 2, 3, 4, 5, 6, 7, 8, 9, 10, 11, 12, 13, 14, 15, 16], [17]), ([18, 13, 16, 0, 1, 2, 3, 4, 5, 6, 7, 8, 9, 10, 11, 12, 13, 14, 15, 16], [13, 18])])
def probe_Probe_Got.B13 : List Nat := [0, 0, 0, 4, 12, 28, 0, 124, 0, 256, 768, 1792, 0, 7936, 4093, 20477, 53245, 131071, 262143, 524287]
theorem probe_Probe_Got.tab13 : rtab .any (opsOf Try.f10 13) = probe_Probe_Got.T13 := by kernel_rfl
theorem probe_Probe_Got.bits13 : waitsOk probe_Probe_Got.T13.2 probe_Probe_Got.B13 = true := by kernel_rfl
set_option maxHeartbeats 16000000 in
set_option maxRecDepth 100000 in
theorem probe_Probe_Got.calls (k : Nat) (g : Nat) (s0_0 : PbS) (a1 : Int) (a2 : Int) (a3 : Int) (a4 : Int) (r1 : Int) (r2 : PbS) (w0 w : World) (hI : IsS42 w0 w g s0_0) (hB : Below w0.heap.size w0 w) (h : probe_Probe_Got.f k s0_0 a1 a2 a3 a4 = some (r1, r2)) :
  Calls Try.prog 10 #[.pointer (some ⟨g, 0, none⟩), .int .i64 a1, .int .i64 a2, .int .i64 a3, .int .i64 a4] w fun e w' => e = .returned (.int .i64 r1) ∧ IsS42 w0 w' g r2 ∧ Below w0.heap.size w0 w' ∧ KeepT w w' := by
 have hpn23_eql : ∀ (a_ : Addr) (W_ : World), (Go.binOp .eql 23 (.pointer (some a_)) (.pointer none)).run Try.prog W_ = .ok (.bool false) W_ := fun _ _ => by kernel_rfl
 have hpn47_eql : ∀ (a_ : Addr) (W_ : World), (Go.binOp .eql 47 (.pointer (some a_)) (.pointer none)).run Try.prog W_ = .ok (.bool false) W_ := fun _ _ => by kernel_rfl
 simp only [probe_Probe_Got.f] at h
 replace h := Option.bind_eq_some_iff.mp h
 obtain ⟨t, A1_, h⟩ := h
 have A1 := Aside0.mk A1_
 clear A1_
 cases t with
 | false =>
  rw [if_neg (by simp)] at h
  simp only [Option.some.injEq, Prod.mk.injEq] at h
  obtain ⟨rfl, rfl⟩ := h
  have HS := Aside0.mk hI
  obtain ⟨m, L, h0, hL⟩ := hI
  have HB := Aside0.mk hB
  clear hB
  have hg_0 : w.cell? ⟨g, 0, none⟩ = some (.map (some m)) := (blk_cell h0.blk 0).trans rfl
  have hg_1 : w.cell? ⟨g, 1, none⟩ = some (.int .i64 s0_0.n) := (blk_cell h0.blk 1).trans rfl
  have hg_2 : w.cell? ⟨g, 2, none⟩ = some (.int .i64 s0_0.o) := (blk_cell h0.blk 2).trans rfl
  have hg_3 : w.cell? ⟨g, 3, none⟩ = some (.int .i64 s0_0.b) := (blk_cell h0.blk 3).trans rfl
  have hfg_0 := blk_frozen h0.blk 0
  have hfg_1 := blk_frozen h0.blk 1
  have hfg_2 := blk_frozen h0.blk 2
  have hfg_3 := blk_frozen h0.blk 3
  clear h0 hL
  go_enter Try.func10, Try.ntmps10
  go_wp2_with (first | (go_at_call 20; (with_reducible refine (probe_good.calls a2 a3 _ _ A1.out).mono ?_); rintro e w' ⟨rfl, hd⟩; obtain ⟨n, rfl⟩ := hd.out))
  go_ret
  exact ⟨rfl, by repeat (first | exact HS.out | apply IsS42.alloc | apply IsS42.drewN | apply IsS42.drew), by repeat (first | exact HB.out | apply below_alloc | apply pw_below_drewN | apply below_drew1), by repeat (first | exact KeepT.refl _ | refine KeepT.below ?_ (below_drew (Below.refl _ _)) | refine KeepT.below ?_ (pw_below_drewN (Below.refl _ _) _))⟩
 | true =>
  rw [if_pos rfl] at h
  by_cases c1 : a4 < -1125899906842624
  ·rw [if_pos c1] at h
   simp only [Option.some.injEq, Prod.mk.injEq] at h
   obtain ⟨rfl, rfl⟩ := h
   have c1b : decide (a4 < -1125899906842624) = true := decide_eq_true c1
   clear c1
   have HS := Aside0.mk hI
   obtain ⟨m, L, h0, hL⟩ := hI
   have HB := Aside0.mk hB
   clear hB
   have hg_0 : w.cell? ⟨g, 0, none⟩ = some (.map (some m)) := (blk_cell h0.blk 0).trans rfl
   have hg_1 : w.cell? ⟨g, 1, none⟩ = some (.int .i64 s0_0.n) := (blk_cell h0.blk 1).trans rfl
   have hg_2 : w.cell? ⟨g, 2, none⟩ = some (.int .i64 s0_0.o) := (blk_cell h0.blk 2).trans rfl
   have hg_3 : w.cell? ⟨g, 3, none⟩ = some (.int .i64 s0_0.b) := (blk_cell h0.blk 3).trans rfl
   have hfg_0 := blk_frozen h0.blk 0
   have hfg_1 := blk_frozen h0.blk 1
   have hfg_2 := blk_frozen h0.blk 2
   have hfg_3 := blk_frozen h0.blk 3
   clear h0 hL
   go_enter Try.func10, Try.ntmps10
   go_wp2_with (first | (go_at_call 20; (with_reducible refine (probe_good.calls a2 a3 _ _ A1.out).mono ?_); rintro e w' ⟨rfl, hd⟩; obtain ⟨n, rfl⟩ := hd.out))
   go_ret
   exact ⟨rfl, by repeat (first | exact HS.out | apply IsS42.alloc | apply IsS42.drewN | apply IsS42.drew), by repeat (first | exact HB.out | apply below_alloc | apply pw_below_drewN | apply below_drew1), by repeat (first | exact KeepT.refl _ | refine KeepT.below ?_ (below_drew (Below.refl _ _)) | refine KeepT.below ?_ (pw_below_drewN (Below.refl _ _) _))⟩
  rw [if_neg c1] at h
  have c1b : decide (a4 < -1125899906842624) = false := decide_eq_false c1
  clear c1
  by_cases c2 : 1125899906842624 < a4
  ·rw [if_pos c2] at h
   simp only [Option.some.injEq, Prod.mk.injEq] at h
   obtain ⟨rfl, rfl⟩ := h
   have c2b : decide (1125899906842624 < a4) = true := decide_eq_true c2
   clear c2
   have HS := Aside0.mk hI
   obtain ⟨m, L, h0, hL⟩ := hI
   have HB := Aside0.mk hB
   clear hB
   have hg_0 : w.cell? ⟨g, 0, none⟩ = some (.map (some m)) := (blk_cell h0.blk 0).trans rfl
   have hg_1 : w.cell? ⟨g, 1, none⟩ = some (.int .i64 s0_0.n) := (blk_cell h0.blk 1).trans rfl
   have hg_2 : w.cell? ⟨g, 2, none⟩ = some (.int .i64 s0_0.o) := (blk_cell h0.blk 2).trans rfl
   have hg_3 : w.cell? ⟨g, 3, none⟩ = some (.int .i64 s0_0.b) := (blk_cell h0.blk 3).trans rfl
   have hfg_0 := blk_frozen h0.blk 0
   have hfg_1 := blk_frozen h0.blk 1
   have hfg_2 := blk_frozen h0.blk 2
   have hfg_3 := blk_frozen h0.blk 3
   clear h0 hL
   go_enter Try.func10, Try.ntmps10
   go_wp2_with (first | (go_at_call 20; (with_reducible refine (probe_good.calls a2 a3 _ _ A1.out).mono ?_); rintro e w' ⟨rfl, hd⟩; obtain ⟨n, rfl⟩ := hd.out))
   go_ret
   exact ⟨rfl, by repeat (first | exact HS.out | apply IsS42.alloc | apply IsS42.drewN | apply IsS42.drew), by repeat (first | exact HB.out | apply below_alloc | apply pw_below_drewN | apply below_drew1), by repeat (first | exact KeepT.refl _ | refine KeepT.below ?_ (below_drew (Below.refl _ _)) | refine KeepT.below ?_ (pw_below_drewN (Below.refl _ _) _))⟩
  rw [if_neg c2] at h
  have c2b : decide (1125899906842624 < a4) = false := decide_eq_false c2
  clear c2
  by_cases c4 : lk s0_0.l a1 = none
  ·rw [if_pos c4] at h
   simp only [Option.some.injEq, Prod.mk.injEq] at h
   obtain ⟨rfl, rfl⟩ := h
   obtain ⟨m, L, h0, hL⟩ := hI
   rw [hL] at c4
   have HNO := Aside0.mk (lk_none c4)
   clear c4
   have HP := Aside0.mk (show PF w0 w w g m s0_0.n s0_0.o s0_0.b (keysOf L) (rowsOf L) from ⟨h0, hB, KeepT.refl w⟩)
   clear h0 hB
   go_enter Try.func10, Try.ntmps10
   go_wp2_with (first | (go_at_call 20; (with_reducible refine (probe_good.calls a2 a3 _ _ A1.out).mono ?_); rintro e w5 ⟨rfl, hd⟩; have hb5 : Below w.heap.size w w5 := (by obtain ⟨n, rfl⟩ := hd.out; exact pw_below_drewN (Below.refl _ _) n); have n0_ := Aside0.mk (PF.below HP.out hb5); clear HP hd hb5; have HP := n0_; clear n0_; have hg_0 : w5.cell? ⟨g, 0, none⟩ = some (.map (some m)) := (blk_cell HP.out.1.blk 0).trans rfl; have hg_1 : w5.cell? ⟨g, 1, none⟩ = some (.int .i64 s0_0.n) := (blk_cell HP.out.1.blk 1).trans rfl; have hg_2 : w5.cell? ⟨g, 2, none⟩ = some (.int .i64 s0_0.o) := (blk_cell HP.out.1.blk 2).trans rfl; have hg_3 : w5.cell? ⟨g, 3, none⟩ = some (.int .i64 s0_0.b) := (blk_cell HP.out.1.blk 3).trans rfl; have hfg_0 := blk_frozen HP.out.1.blk 0; have hfg_1 := blk_frozen HP.out.1.blk 1; have hfg_2 := blk_frozen HP.out.1.blk 2; have hfg_3 := blk_frozen HP.out.1.blk 3; have hlk := look_out Try.underlying40 Try.underlying3 (show ∀ W_, (zeroValue 47).run Try.prog W_ = .ok (.pointer none) W_ from fun _ => by kernel_rfl) HP.out.1.mp HNO.out))
   go_ret
   exact ⟨rfl, ⟨m, L, HP.out.1, hL⟩, HP.out.2.1, HP.out.2.2⟩
  rw [if_neg c4] at h
  clear c4
  obtain ⟨x, hx, h⟩ := Option.bind_eq_some_iff.mp h
  obtain ⟨m, L, h0, hL⟩ := hI
  rw [hL] at hx
  obtain ⟨L1, c, L2, e_, hn⟩ := lk_split hx
  subst e_
  rw [rows_mid] at h0
  have HP := Aside0.mk (show PF w0 w w g m s0_0.n s0_0.o s0_0.b (keysOf (L1 ++ (a1, c, x) :: L2)) (rowsOf L1 ++ (c, #[.int .i64 x.c0, .int .i64 x.c1, .int .i64 x.c2, .int .i64 x.c3, .int .i64 x.c4, .int .i64 x.c5, .int .i64 x.c6, .int .i64 x.c7, .int .i64 x.c8, .int .i64 x.c9, .int .i64 x.c10]) :: rowsOf L2) from ⟨h0, hB, KeepT.refl w⟩)
  have HF := Aside0.mk (keys_find (L2 := L2) (c := c) (x := x) hn)
  clear h0 hB
  by_cases c7 : x.c3 = 0
  ·rw [if_pos c7] at h
   have k7b : (x.c3 == 0) = true := beq_iff_eq.mpr c7
   have C7 := Aside0.mk c7
   clear c7
   simp only [gotu, Option.bind_eq_some_iff] at h
   obtain ⟨fr2, hf_, la2, hla_, cn, hcn_, by_, hby_, b, AR_, b2, hb2_, h⟩ := h
   have hfr : a3 = fr2 := by rw [← Option.some.inj hf_]; unfold mn; split <;> rfl
   have hla : a4 = la2 := by rw [← Option.some.inj hla_]; unfold mx; split <;> rfl
   clear hf_ hla_
   subst hfr hla
   have hcn := Option.some.inj hcn_
   have hby := Option.some.inj hby_
   obtain ⟨y0, y1, y2, y3, y4, y5, y6, y7, y8, y9, y10, y11⟩ := b
   have hb2 : (if s0_0.b < y0 then y0 else s0_0.b) = b2 := Option.some.inj hb2_
   have AR := Aside0.mk AR_
   clear hcn_ hby_ hb2_ AR_
   simp only [Option.some.injEq, Prod.mk.injEq] at h
   obtain ⟨rfl, rfl⟩ := h
   go_enter Try.func10, Try.ntmps10
   go_upto_region 7 with (first | (go_at_call 20; (with_reducible refine (probe_good.calls a2 a3 _ _ A1.out).mono ?_); rintro e w5 ⟨rfl, hd⟩; have hb5 : Below w.heap.size w w5 := (by obtain ⟨n, rfl⟩ := hd.out; exact pw_below_drewN (Below.refl _ _) n); have n0_ := Aside0.mk (PF.below HP.out hb5); clear HP hd hb5; have HP := n0_; clear n0_; have hg_0 : w5.cell? ⟨g, 0, none⟩ = some (.map (some m)) := (blk_cell HP.out.1.blk 0).trans rfl; have hg_1 : w5.cell? ⟨g, 1, none⟩ = some (.int .i64 s0_0.n) := (blk_cell HP.out.1.blk 1).trans rfl; have hg_2 : w5.cell? ⟨g, 2, none⟩ = some (.int .i64 s0_0.o) := (blk_cell HP.out.1.blk 2).trans rfl; have hg_3 : w5.cell? ⟨g, 3, none⟩ = some (.int .i64 s0_0.b) := (blk_cell HP.out.1.blk 3).trans rfl; have hfg_0 := blk_frozen HP.out.1.blk 0; have hfg_1 := blk_frozen HP.out.1.blk 1; have hfg_2 := blk_frozen HP.out.1.blk 2; have hfg_3 := blk_frozen HP.out.1.blk 3; have hc_0 := (blk_cell HP.out.1.cb 0).trans rfl; have hc_1 := (blk_cell HP.out.1.cb 1).trans rfl; have hc_2 := (blk_cell HP.out.1.cb 2).trans rfl; have hc_3 := (blk_cell HP.out.1.cb 3).trans rfl; have hc_4 := (blk_cell HP.out.1.cb 4).trans rfl; have hc_5 := (blk_cell HP.out.1.cb 5).trans rfl; have hc_6 := (blk_cell HP.out.1.cb 6).trans rfl; have hc_7 := (blk_cell HP.out.1.cb 7).trans rfl; have hc_8 := (blk_cell HP.out.1.cb 8).trans rfl; have hc_9 := (blk_cell HP.out.1.cb 9).trans rfl; have hc_10 := (blk_cell HP.out.1.cb 10).trans rfl; have hfc_0 := blk_frozen HP.out.1.cb 0; have hfc_1 := blk_frozen HP.out.1.cb 1; have hfc_2 := blk_frozen HP.out.1.cb 2; have hfc_3 := blk_frozen HP.out.1.cb 3; have hfc_4 := blk_frozen HP.out.1.cb 4; have hfc_5 := blk_frozen HP.out.1.cb 5; have hfc_6 := blk_frozen HP.out.1.cb 6; have hfc_7 := blk_frozen HP.out.1.cb 7; have hfc_8 := blk_frozen HP.out.1.cb 8; have hfc_9 := blk_frozen HP.out.1.cb 9; have hfc_10 := blk_frozen HP.out.1.cb 10; have hlk := look_in Try.underlying40 Try.underlying3 HP.out.1.mp HF.out true))
   have hx0_7 := blk_frozen (PF.setc HP.out 6 (.int .i64 a3)).1.cb 7
   have hy0_7 := (blk_cell (PF.setc HP.out 6 (.int .i64 a3)).1.cb 7).trans rfl
   go_upto_region 9 with (first | fail)
   clear hx0_7 hy0_7
   have n0_ : Aside0 (PF w0 w ((w5.setCell ⟨c, 6, none⟩ (.int .i64 a3)).setCell ⟨c, 7, none⟩ (.int .i64 a2)) g m s0_0.n s0_0.o s0_0.b (keysOf (L1 ++ (a1, c, x) :: L2)) (rowsOf L1 ++ (c, #[.int .i64 x.c0, .int .i64 x.c1, .int .i64 x.c2, .int .i64 x.c3, .int .i64 x.c4, .int .i64 x.c5, .int .i64 a3, .int .i64 a2, .int .i64 x.c8, .int .i64 x.c9, .int .i64 x.c10]) :: rowsOf L2)) := ⟨(PF.setc (PF.setc HP.out 6 (.int .i64 a3)) 7 (.int .i64 a2))⟩
   clear HP
   clear hg_0 hfg_0 hg_1 hfg_1 hg_2 hfg_2 hg_3 hfg_3
   clear hc_0 hfc_0 hc_1 hfc_1 hc_2 hfc_2 hc_3 hfc_3 hc_4 hfc_4 hc_5 hfc_5 hc_6 hfc_6 hc_7 hfc_7 hc_8 hfc_8 hc_9 hfc_9 hc_10 hfc_10
   generalize ((w5.setCell ⟨c, 6, none⟩ (.int .i64 a3)).setCell ⟨c, 7, none⟩ (.int .i64 a2)) = w6 at n0_ ⊢
   have HP := n0_
   clear n0_
   have hg_0 : w6.cell? ⟨g, 0, none⟩ = some (.map (some m)) := (blk_cell HP.out.1.blk 0).trans rfl
   have hg_1 : w6.cell? ⟨g, 1, none⟩ = some (.int .i64 s0_0.n) := (blk_cell HP.out.1.blk 1).trans rfl
   have hg_2 : w6.cell? ⟨g, 2, none⟩ = some (.int .i64 s0_0.o) := (blk_cell HP.out.1.blk 2).trans rfl
   have hg_3 : w6.cell? ⟨g, 3, none⟩ = some (.int .i64 s0_0.b) := (blk_cell HP.out.1.blk 3).trans rfl
   have hfg_0 := blk_frozen HP.out.1.blk 0
   have hfg_1 := blk_frozen HP.out.1.blk 1
   have hfg_2 := blk_frozen HP.out.1.blk 2
   have hfg_3 := blk_frozen HP.out.1.blk 3
   have hc_0 := (blk_cell HP.out.1.cb 0).trans rfl
   have hc_1 := (blk_cell HP.out.1.cb 1).trans rfl
   have hc_2 := (blk_cell HP.out.1.cb 2).trans rfl
   have hc_3 := (blk_cell HP.out.1.cb 3).trans rfl
   have hc_4 := (blk_cell HP.out.1.cb 4).trans rfl
   have hc_5 := (blk_cell HP.out.1.cb 5).trans rfl
   have hc_6 := (blk_cell HP.out.1.cb 6).trans rfl
   have hc_7 := (blk_cell HP.out.1.cb 7).trans rfl
   have hc_8 := (blk_cell HP.out.1.cb 8).trans rfl
   have hc_9 := (blk_cell HP.out.1.cb 9).trans rfl
   have hc_10 := (blk_cell HP.out.1.cb 10).trans rfl
   have hfc_0 := blk_frozen HP.out.1.cb 0
   have hfc_1 := blk_frozen HP.out.1.cb 1
   have hfc_2 := blk_frozen HP.out.1.cb 2
   have hfc_3 := blk_frozen HP.out.1.cb 3
   have hfc_4 := blk_frozen HP.out.1.cb 4
   have hfc_5 := blk_frozen HP.out.1.cb 5
   have hfc_6 := blk_frozen HP.out.1.cb 6
   have hfc_7 := blk_frozen HP.out.1.cb 7
   have hfc_8 := blk_frozen HP.out.1.cb 8
   have hfc_9 := blk_frozen HP.out.1.cb 9
   have hfc_10 := blk_frozen HP.out.1.cb 10
   have hx0_10 := blk_frozen (PF.setc HP.out 8 (.int .i64 a4)).1.cb 10
   have hy0_10 := (blk_cell (PF.setc HP.out 8 (.int .i64 a4)).1.cb 10).trans rfl
   go_upto_region 11 with (first | fail)
   clear hx0_10 hy0_10
   have n0_ : Aside0 (PF w0 w ((w6.setCell ⟨c, 8, none⟩ (.int .i64 a4)).setCell ⟨c, 10, none⟩ (.int .i64 a2)) g m s0_0.n s0_0.o s0_0.b (keysOf (L1 ++ (a1, c, x) :: L2)) (rowsOf L1 ++ (c, #[.int .i64 x.c0, .int .i64 x.c1, .int .i64 x.c2, .int .i64 x.c3, .int .i64 x.c4, .int .i64 x.c5, .int .i64 a3, .int .i64 a2, .int .i64 a4, .int .i64 x.c9, .int .i64 a2]) :: rowsOf L2)) := ⟨(PF.setc (PF.setc HP.out 8 (.int .i64 a4)) 10 (.int .i64 a2))⟩
   clear HP
   clear hg_0 hfg_0 hg_1 hfg_1 hg_2 hfg_2 hg_3 hfg_3
   clear hc_0 hfc_0 hc_1 hfc_1 hc_2 hfc_2 hc_3 hfc_3 hc_4 hfc_4 hc_5 hfc_5 hc_6 hfc_6 hc_7 hfc_7 hc_8 hfc_8 hc_9 hfc_9 hc_10 hfc_10
   generalize ((w6.setCell ⟨c, 8, none⟩ (.int .i64 a4)).setCell ⟨c, 10, none⟩ (.int .i64 a2)) = w7 at n0_ ⊢
   have HP := n0_
   clear n0_
   have hg_0 : w7.cell? ⟨g, 0, none⟩ = some (.map (some m)) := (blk_cell HP.out.1.blk 0).trans rfl
   have hg_1 : w7.cell? ⟨g, 1, none⟩ = some (.int .i64 s0_0.n) := (blk_cell HP.out.1.blk 1).trans rfl
   have hg_2 : w7.cell? ⟨g, 2, none⟩ = some (.int .i64 s0_0.o) := (blk_cell HP.out.1.blk 2).trans rfl
   have hg_3 : w7.cell? ⟨g, 3, none⟩ = some (.int .i64 s0_0.b) := (blk_cell HP.out.1.blk 3).trans rfl
   have hfg_0 := blk_frozen HP.out.1.blk 0
   have hfg_1 := blk_frozen HP.out.1.blk 1
   have hfg_2 := blk_frozen HP.out.1.blk 2
   have hfg_3 := blk_frozen HP.out.1.blk 3
   have hc_0 := (blk_cell HP.out.1.cb 0).trans rfl
   have hc_1 := (blk_cell HP.out.1.cb 1).trans rfl
   have hc_2 := (blk_cell HP.out.1.cb 2).trans rfl
   have hc_3 := (blk_cell HP.out.1.cb 3).trans rfl
   have hc_4 := (blk_cell HP.out.1.cb 4).trans rfl
   have hc_5 := (blk_cell HP.out.1.cb 5).trans rfl
   have hc_6 := (blk_cell HP.out.1.cb 6).trans rfl
   have hc_7 := (blk_cell HP.out.1.cb 7).trans rfl
   have hc_8 := (blk_cell HP.out.1.cb 8).trans rfl
   have hc_9 := (blk_cell HP.out.1.cb 9).trans rfl
   have hc_10 := (blk_cell HP.out.1.cb 10).trans rfl
   have hfc_0 := blk_frozen HP.out.1.cb 0
   have hfc_1 := blk_frozen HP.out.1.cb 1
   have hfc_2 := blk_frozen HP.out.1.cb 2
   have hfc_3 := blk_frozen HP.out.1.cb 3
   have hfc_4 := blk_frozen HP.out.1.cb 4
   have hfc_5 := blk_frozen HP.out.1.cb 5
   have hfc_6 := blk_frozen HP.out.1.cb 6
   have hfc_7 := blk_frozen HP.out.1.cb 7
   have hfc_8 := blk_frozen HP.out.1.cb 8
   have hfc_9 := blk_frozen HP.out.1.cb 9
   have hfc_10 := blk_frozen HP.out.1.cb 10
   have hx0_9 := blk_frozen (PF.setc HP.out 5 (.int .i64 a3)).1.cb 9
   have hy0_9 := (blk_cell (PF.setc HP.out 5 (.int .i64 a3)).1.cb 9).trans rfl
   go_upto_region 13 with (first | fail)
   clear hx0_9 hy0_9
   have n0_ : Aside0 (PF w0 w ((w7.setCell ⟨c, 5, none⟩ (.int .i64 a3)).setCell ⟨c, 9, none⟩ (.int .i64 a4)) g m s0_0.n s0_0.o s0_0.b (keysOf (L1 ++ (a1, c, x) :: L2)) (rowsOf L1 ++ (c, #[.int .i64 x.c0, .int .i64 x.c1, .int .i64 x.c2, .int .i64 x.c3, .int .i64 x.c4, .int .i64 a3, .int .i64 a3, .int .i64 a2, .int .i64 a4, .int .i64 a4, .int .i64 a2]) :: rowsOf L2)) := ⟨(PF.setc (PF.setc HP.out 5 (.int .i64 a3)) 9 (.int .i64 a4))⟩
   clear HP
   clear hg_0 hfg_0 hg_1 hfg_1 hg_2 hfg_2 hg_3 hfg_3
   clear hc_0 hfc_0 hc_1 hfc_1 hc_2 hfc_2 hc_3 hfc_3 hc_4 hfc_4 hc_5 hfc_5 hc_6 hfc_6 hc_7 hfc_7 hc_8 hfc_8 hc_9 hfc_9 hc_10 hfc_10
   generalize ((w7.setCell ⟨c, 5, none⟩ (.int .i64 a3)).setCell ⟨c, 9, none⟩ (.int .i64 a4)) = w8 at n0_ ⊢
   have HP := n0_
   clear n0_
   have hg_0 : w8.cell? ⟨g, 0, none⟩ = some (.map (some m)) := (blk_cell HP.out.1.blk 0).trans rfl
   have hg_1 : w8.cell? ⟨g, 1, none⟩ = some (.int .i64 s0_0.n) := (blk_cell HP.out.1.blk 1).trans rfl
   have hg_2 : w8.cell? ⟨g, 2, none⟩ = some (.int .i64 s0_0.o) := (blk_cell HP.out.1.blk 2).trans rfl
   have hg_3 : w8.cell? ⟨g, 3, none⟩ = some (.int .i64 s0_0.b) := (blk_cell HP.out.1.blk 3).trans rfl
   have hfg_0 := blk_frozen HP.out.1.blk 0
   have hfg_1 := blk_frozen HP.out.1.blk 1
   have hfg_2 := blk_frozen HP.out.1.blk 2
   have hfg_3 := blk_frozen HP.out.1.blk 3
   have hc_0 := (blk_cell HP.out.1.cb 0).trans rfl
   have hc_1 := (blk_cell HP.out.1.cb 1).trans rfl
   have hc_2 := (blk_cell HP.out.1.cb 2).trans rfl
   have hc_3 := (blk_cell HP.out.1.cb 3).trans rfl
   have hc_4 := (blk_cell HP.out.1.cb 4).trans rfl
   have hc_5 := (blk_cell HP.out.1.cb 5).trans rfl
   have hc_6 := (blk_cell HP.out.1.cb 6).trans rfl
   have hc_7 := (blk_cell HP.out.1.cb 7).trans rfl
   have hc_8 := (blk_cell HP.out.1.cb 8).trans rfl
   have hc_9 := (blk_cell HP.out.1.cb 9).trans rfl
   have hc_10 := (blk_cell HP.out.1.cb 10).trans rfl
   have hfc_0 := blk_frozen HP.out.1.cb 0
   have hfc_1 := blk_frozen HP.out.1.cb 1
   have hfc_2 := blk_frozen HP.out.1.cb 2
   have hfc_3 := blk_frozen HP.out.1.cb 3
   have hfc_4 := blk_frozen HP.out.1.cb 4
   have hfc_5 := blk_frozen HP.out.1.cb 5
   have hfc_6 := blk_frozen HP.out.1.cb 6
   have hfc_7 := blk_frozen HP.out.1.cb 7
   have hfc_8 := blk_frozen HP.out.1.cb 8
   have hfc_9 := blk_frozen HP.out.1.cb 9
   have hfc_10 := blk_frozen HP.out.1.cb 10
   clear hg_0 hfg_0 hg_1 hfg_1 hg_2 hfg_2 hg_3 hfg_3
   clear hc_0 hfc_0 hc_1 hfc_1 hc_2 hfc_2 hc_3 hfc_3 hc_4 hfc_4 hc_5 hfc_5 hc_6 hfc_6 hc_7 hfc_7 hc_8 hfc_8 hc_9 hfc_9 hc_10 hfc_10
   have n0_ := Aside0.mk (PF.drew HP.out)
   clear HP
   have HP := n0_
   clear n0_
   refine start_ (n := 20) (S := fun w' => w'.cell? ⟨c, 5, none⟩ = some (.int .i64 a3) ∧ w'.cell? ⟨c, 9, none⟩ = some (.int .i64 a4)) (ds := [16, 19]) #[false, false, false, false, false, false, false, false, false, false, false, false, false, false, false, false, false, false, false, false] (by kernel_rfl) rfl rfl ⟨(blk_cell HP.out.1.cb 5).trans rfl, (blk_cell HP.out.1.cb 9).trans rfl⟩ (fun hHeld => ?_); refine with_tabW probe_Probe_Got.tab13 probe_Probe_Got.bits13 (fun HT_ HW_ => ?_)
   generalize World.drew w8 = w9 at HP hHeld ⊢
   refine pure_ (i := 0) (N := some 98) (v := ?_) (a' := ?_) #[true, false, false, false, false, false, false, false, false, false, false, false, false, false, false, false, false, false, false, false] rfl rfl (any_of HT_.out (by kernel_rfl)) (fun _ _ _ h => h) (Or.inl ⟨by rfl, ?_⟩) ?_ ?_
   rotate_left
   ·intro w'
    go_simp
    with_reducible rfl
   rotate_left
   ·simp only [Act.put, List.setIfInBounds_toArray, List.set_cons_zero, List.set_cons_succ, i64_w, i32_w]
    rfl
   refine pure_ (i := 1) (N := some 99) (v := ?_) (a' := ?_) #[true, true, false, false, false, false, false, false, false, false, false, false, false, false, false, false, false, false, false, false] rfl rfl (any_of HT_.out (by kernel_rfl)) (fun _ _ _ h => h) (Or.inl ⟨by rfl, ?_⟩) ?_ ?_
   rotate_left
   ·intro w'
    go_simp
    with_reducible rfl
   rotate_left
   ·simp only [Act.put, List.setIfInBounds_toArray, List.set_cons_zero, List.set_cons_succ, i64_w, i32_w]
    rfl
   refine pure_ (i := 2) (N := some 100) (v := ?_) (a' := ?_) #[true, true, true, false, false, false, false, false, false, false, false, false, false, false, false, false, false, false, false, false] rfl rfl (any_of HT_.out (by kernel_rfl)) (fun _ _ _ h => h) (Or.inl ⟨by rfl, ?_⟩) ?_ ?_
   rotate_left
   ·intro w'
    go_simp
    with_reducible rfl
   rotate_left
   ·simp only [Act.put, List.setIfInBounds_toArray, List.set_cons_zero, List.set_cons_succ, i64_w, i32_w]
    rfl
   refine pure_ (i := 3) (N := some 101) (v := ?_) (a' := ?_) #[true, true, true, true, false, false, false, false, false, false, false, false, false, false, false, false, false, false, false, false] rfl rfl (any_of HT_.out (by kernel_rfl)) (fun _ _ _ h => h) (Or.inl ⟨by rfl, ?_⟩) ?_ ?_
   rotate_left
   ·intro w'
    go_simp
    with_reducible rfl
   rotate_left
   ·simp only [Act.put, List.setIfInBounds_toArray, List.set_cons_zero, List.set_cons_succ, i64_w, i32_w]
    rfl
   refine pure_ (i := 4) (N := some 102) (v := ?_) (a' := ?_) #[true, true, true, true, true, false, false, false, false, false, false, false, false, false, false, false, false, false, false, false] rfl rfl (any_of HT_.out (by kernel_rfl)) (fun _ _ _ h => h) (Or.inl ⟨by rfl, ?_⟩) ?_ ?_
   rotate_left
   ·intro w'
    go_simp
    with_reducible rfl
   rotate_left
   ·simp only [Act.put, List.setIfInBounds_toArray, List.set_cons_zero, List.set_cons_succ, i64_w, i32_w]
    rfl
   refine take_ (i := 5) (N := some 103) (v := ?_) (a' := ?_) #[true, true, true, true, true, true, false, false, false, false, false, false, false, false, false, false, false, false, false, false] rfl rfl (take_ofW HT_.out HW_.out (by kernel_rfl)) (fun _ _ _ h => h) (Or.inl ⟨by rfl, ?_⟩) hHeld ?_ ?_
   rotate_left
   ·rintro w' ⟨s0, s1⟩
    go_simp
    with_reducible rfl
   rotate_left
   ·simp only [Act.put, List.setIfInBounds_toArray, List.set_cons_zero, List.set_cons_succ, i64_w, i32_w]
    rfl
   refine pure_ (i := 6) (N := some 104) (v := ?_) (a' := ?_) #[true, true, true, true, true, true, true, false, false, false, false, false, false, false, false, false, false, false, false, false] rfl rfl (any_of HT_.out (by kernel_rfl)) (fun _ _ _ h => h) (Or.inl ⟨by rfl, ?_⟩) ?_ ?_
   rotate_left
   ·intro w'
    go_simp
    with_reducible rfl
   rotate_left
   ·simp only [Act.put, List.setIfInBounds_toArray, List.set_cons_zero, List.set_cons_succ, i64_w, i32_w]
    rfl
   refine pure_ (i := 7) (N := some 105) (v := ?_) (a' := ?_) #[true, true, true, true, true, true, true, true, false, false, false, false, false, false, false, false, false, false, false, false] rfl rfl (any_of HT_.out (by kernel_rfl)) (fun _ _ _ h => h) (Or.inl ⟨by rfl, ?_⟩) ?_ ?_
   rotate_left
   ·intro w'
    go_simp
    with_reducible rfl
   rotate_left
   ·simp only [Act.put, List.setIfInBounds_toArray, List.set_cons_zero, List.set_cons_succ, i64_w, i32_w]
    rfl
   refine pure_ (i := 8) (N := some 106) (v := ?_) (a' := ?_) #[true, true, true, true, true, true, true, true, true, false, false, false, false, false, false, false, false, false, false, false] rfl rfl (any_of HT_.out (by kernel_rfl)) (fun _ _ _ h => h) (Or.inl ⟨by rfl, ?_⟩) ?_ ?_
   rotate_left
   ·intro w'
    go_simp
    with_reducible rfl
   rotate_left
   ·simp only [Act.put, List.setIfInBounds_toArray, List.set_cons_zero, List.set_cons_succ, i64_w, i32_w]
    rfl
   refine pure_ (i := 9) (N := some 107) (v := ?_) (a' := ?_) #[true, true, true, true, true, true, true, true, true, true, false, false, false, false, false, false, false, false, false, false] rfl rfl (any_of HT_.out (by kernel_rfl)) (fun _ _ _ h => h) (Or.inl ⟨by rfl, ?_⟩) ?_ ?_
   rotate_left
   ·intro w'
    go_simp
    with_reducible rfl
   rotate_left
   ·simp only [Act.put, List.setIfInBounds_toArray, List.set_cons_zero, List.set_cons_succ, i64_w, i32_w]
    rfl
   refine pure_ (i := 10) (N := some 108) (v := ?_) (a' := ?_) #[true, true, true, true, true, true, true, true, true, true, true, false, false, false, false, false, false, false, false, false] rfl rfl (any_of HT_.out (by kernel_rfl)) (fun _ _ _ h => h) (Or.inl ⟨by rfl, ?_⟩) ?_ ?_
   rotate_left
   ·intro w'
    go_simp
    with_reducible rfl
   rotate_left
   ·simp only [Act.put, List.setIfInBounds_toArray, List.set_cons_zero, List.set_cons_succ, i64_w, i32_w]
    rfl
   refine take_ (i := 11) (N := some 109) (v := ?_) (a' := ?_) #[true, true, true, true, true, true, true, true, true, true, true, true, false, false, false, false, false, false, false, false] rfl rfl (take_ofW HT_.out HW_.out (by kernel_rfl)) (fun _ _ _ h => h) (Or.inl ⟨by rfl, ?_⟩) hHeld ?_ ?_
   rotate_left
   ·rintro w' ⟨s0, s1⟩
    go_simp
    with_reducible rfl
   rotate_left
   ·simp only [Act.put, List.setIfInBounds_toArray, List.set_cons_zero, List.set_cons_succ, i64_w, i32_w]
    rfl
   refine pure_ (i := 12) (N := some 110) (v := ?_) (a' := ?_) #[true, true, true, true, true, true, true, true, true, true, true, true, true, false, false, false, false, false, false, false] rfl rfl (any_of HT_.out (by kernel_rfl)) (fun _ _ _ h => h) (Or.inl ⟨by rfl, ?_⟩) ?_ ?_
   rotate_left
   ·intro w'
    go_simp
    with_reducible rfl
   rotate_left
   ·simp only [Act.put, List.setIfInBounds_toArray, List.set_cons_zero, List.set_cons_succ, i64_w, i32_w]
    rfl
   refine pure_ (i := 13) (N := some 111) (v := ?_) (a' := ?_) #[true, true, true, true, true, true, true, true, true, true, true, true, true, true, false, false, false, false, false, false] rfl rfl (any_of HT_.out (by kernel_rfl)) (fun _ _ _ h => h) (Or.inl ⟨by rfl, ?_⟩) ?_ ?_
   rotate_left
   ·intro w'
    go_simp
    with_reducible rfl
   rotate_left
   ·simp only [Act.put, List.setIfInBounds_toArray, List.set_cons_zero, List.set_cons_succ, i64_w, i32_w]
    rfl
   refine pure_ (i := 14) (N := some 112) (v := ?_) (a' := ?_) #[true, true, true, true, true, true, true, true, true, true, true, true, true, true, true, false, false, false, false, false] rfl rfl (any_of HT_.out (by kernel_rfl)) (fun _ _ _ h => h) (Or.inl ⟨by rfl, ?_⟩) ?_ ?_
   rotate_left
   ·intro w'
    go_simp
    with_reducible rfl
   rotate_left
   ·simp only [Act.put, List.setIfInBounds_toArray, List.set_cons_zero, List.set_cons_succ, i64_w, i32_w]
    rfl
   refine pure_ (i := 15) (N := some 113) (v := ?_) (a' := ?_) #[true, true, true, true, true, true, true, true, true, true, true, true, true, true, true, true, false, false, false, false] rfl rfl (any_of HT_.out (by kernel_rfl)) (fun _ _ _ h => h) (Or.inl ⟨by rfl, ?_⟩) ?_ ?_
   rotate_left
   ·intro w'
    go_simp
    with_reducible rfl
   rotate_left
   ·simp only [Act.put, List.setIfInBounds_toArray, List.set_cons_zero, List.set_cons_succ, i64_w, i32_w]
    rfl
   refine last_ (i := 16) (N := none) #[true, true, true, true, true, true, true, true, true, true, true, true, true, true, true, true, true, false, false, false] rfl rfl (one_of HT_.out (by kernel_rfl)) (by decide) (fun K hK => ?_)
   have hs_ : w9.cell? ⟨c, 5, none⟩ = some (.int .i64 a3) := (blk_cell HP.out.1.cb 5).trans rfl
   have hfs_ := blk_frozen HP.out.1.cb 5
   refine skip_ (w1 := ?_) (by rfl) rfl ?_ ?_
   rotate_left
   ·go_simp
    rfl
   have n0_ : Aside0 (PF w0 w (w9.setCell ⟨c, 5, none⟩ (.int .i64 a3)) g m s0_0.n s0_0.o s0_0.b (keysOf (L1 ++ (a1, c, x) :: L2)) (rowsOf L1 ++ (c, #[.int .i64 x.c0, .int .i64 x.c1, .int .i64 x.c2, .int .i64 x.c3, .int .i64 x.c4, .int .i64 a3, .int .i64 a3, .int .i64 a2, .int .i64 a4, .int .i64 a4, .int .i64 a2]) :: rowsOf L2)) := ⟨HP.out.setc 5 _⟩
   clear HP hs_ hfs_
   have HP := n0_
   clear n0_
   generalize (w9.setCell ⟨c, 5, none⟩ (.int .i64 a3)) = w10 at HP ⊢
   refine hK.out _ _ ?_
   clear hK K
   refine pure_ (i := 17) (N := some 114) (v := ?_) (a' := ?_) #[true, true, true, true, true, true, true, true, true, true, true, true, true, true, true, true, true, true, false, false] rfl rfl (any_of HT_.out (by kernel_rfl)) (fun _ _ _ h => h) (Or.inl ⟨by rfl, ?_⟩) ?_ ?_
   rotate_left
   ·intro w'
    go_simp
    with_reducible rfl
   rotate_left
   ·simp only [Act.put, List.setIfInBounds_toArray, List.set_cons_zero, List.set_cons_succ, i64_w, i32_w]
    rfl
   refine pure_ (i := 18) (N := some 115) (v := ?_) (a' := ?_) #[true, true, true, true, true, true, true, true, true, true, true, true, true, true, true, true, true, true, true, false] rfl rfl (any_of HT_.out (by kernel_rfl)) (fun _ _ _ h => h) (Or.inl ⟨by rfl, ?_⟩) ?_ ?_
   rotate_left
   ·intro w'
    go_simp
    with_reducible rfl
   rotate_left
   ·simp only [Act.put, List.setIfInBounds_toArray, List.set_cons_zero, List.set_cons_succ, i64_w, i32_w]
    rfl
   refine last_ (i := 19) (N := none) #[true, true, true, true, true, true, true, true, true, true, true, true, true, true, true, true, true, true, true, true] rfl rfl (one_of HT_.out (by kernel_rfl)) (by decide) (fun K hK => ?_)
   have hs_ : w10.cell? ⟨c, 9, none⟩ = some (.int .i64 a4) := (blk_cell HP.out.1.cb 9).trans rfl
   have hfs_ := blk_frozen HP.out.1.cb 9
   refine skip_ (w1 := ?_) (by rfl) rfl ?_ ?_
   rotate_left
   ·go_simp
    rfl
   have n0_ : Aside0 (PF w0 w (w10.setCell ⟨c, 9, none⟩ (.int .i64 a4)) g m s0_0.n s0_0.o s0_0.b (keysOf (L1 ++ (a1, c, x) :: L2)) (rowsOf L1 ++ (c, #[.int .i64 x.c0, .int .i64 x.c1, .int .i64 x.c2, .int .i64 x.c3, .int .i64 x.c4, .int .i64 a3, .int .i64 a3, .int .i64 a2, .int .i64 a4, .int .i64 a4, .int .i64 a2]) :: rowsOf L2)) := ⟨HP.out.setc 9 _⟩
   clear HP hs_ hfs_
   have HP := n0_
   clear n0_
   generalize (w10.setCell ⟨c, 9, none⟩ (.int .i64 a4)) = w11 at HP ⊢
   refine hK.out _ _ ?_
   clear hK K
   refine done_ (done_of HT_.out (by kernel_rfl)) ?_
   clear hHeld HT_ HW_
   have hg_0 : w11.cell? ⟨g, 0, none⟩ = some (.map (some m)) := (blk_cell HP.out.1.blk 0).trans rfl
   have hg_1 : w11.cell? ⟨g, 1, none⟩ = some (.int .i64 s0_0.n) := (blk_cell HP.out.1.blk 1).trans rfl
   have hg_2 : w11.cell? ⟨g, 2, none⟩ = some (.int .i64 s0_0.o) := (blk_cell HP.out.1.blk 2).trans rfl
   have hg_3 : w11.cell? ⟨g, 3, none⟩ = some (.int .i64 s0_0.b) := (blk_cell HP.out.1.blk 3).trans rfl
   have hfg_0 := blk_frozen HP.out.1.blk 0
   have hfg_1 := blk_frozen HP.out.1.blk 1
   have hfg_2 := blk_frozen HP.out.1.blk 2
   have hfg_3 := blk_frozen HP.out.1.blk 3
   have hc_0 := (blk_cell HP.out.1.cb 0).trans rfl
   have hc_1 := (blk_cell HP.out.1.cb 1).trans rfl
   have hc_2 := (blk_cell HP.out.1.cb 2).trans rfl
   have hc_3 := (blk_cell HP.out.1.cb 3).trans rfl
   have hc_4 := (blk_cell HP.out.1.cb 4).trans rfl
   have hc_5 := (blk_cell HP.out.1.cb 5).trans rfl
   have hc_6 := (blk_cell HP.out.1.cb 6).trans rfl
   have hc_7 := (blk_cell HP.out.1.cb 7).trans rfl
   have hc_8 := (blk_cell HP.out.1.cb 8).trans rfl
   have hc_9 := (blk_cell HP.out.1.cb 9).trans rfl
   have hc_10 := (blk_cell HP.out.1.cb 10).trans rfl
   have hfc_0 := blk_frozen HP.out.1.cb 0
   have hfc_1 := blk_frozen HP.out.1.cb 1
   have hfc_2 := blk_frozen HP.out.1.cb 2
   have hfc_3 := blk_frozen HP.out.1.cb 3
   have hfc_4 := blk_frozen HP.out.1.cb 4
   have hfc_5 := blk_frozen HP.out.1.cb 5
   have hfc_6 := blk_frozen HP.out.1.cb 6
   have hfc_7 := blk_frozen HP.out.1.cb 7
   have hfc_8 := blk_frozen HP.out.1.cb 8
   have hfc_9 := blk_frozen HP.out.1.cb 9
   have hfc_10 := blk_frozen HP.out.1.cb 10
   have hx0_4 := blk_frozen (PF.setc HP.out 3 (.int .i64 cn)).1.cb 4
   have hy0_4 := (blk_cell (PF.setc HP.out 3 (.int .i64 cn)).1.cb 4).trans rfl
   go_upto_region 16 with (first | fail)
   clear hx0_4 hy0_4
   have n0_ : Aside0 (PF w0 w ((w11.setCell ⟨c, 3, none⟩ (.int .i64 cn)).setCell ⟨c, 4, none⟩ (.int .i64 by_)) g m s0_0.n s0_0.o s0_0.b (keysOf (L1 ++ (a1, c, x) :: L2)) (rowsOf L1 ++ (c, #[.int .i64 x.c0, .int .i64 x.c1, .int .i64 x.c2, .int .i64 cn, .int .i64 by_, .int .i64 a3, .int .i64 a3, .int .i64 a2, .int .i64 a4, .int .i64 a4, .int .i64 a2]) :: rowsOf L2)) := ⟨(PF.setc (PF.setc HP.out 3 (.int .i64 cn)) 4 (.int .i64 by_))⟩
   clear HP
   clear hg_0 hfg_0 hg_1 hfg_1 hg_2 hfg_2 hg_3 hfg_3
   clear hc_0 hfc_0 hc_1 hfc_1 hc_2 hfc_2 hc_3 hfc_3 hc_4 hfc_4 hc_5 hfc_5 hc_6 hfc_6 hc_7 hfc_7 hc_8 hfc_8 hc_9 hfc_9 hc_10 hfc_10
   generalize ((w11.setCell ⟨c, 3, none⟩ (.int .i64 cn)).setCell ⟨c, 4, none⟩ (.int .i64 by_)) = w12 at n0_ ⊢
   have HP := n0_
   clear n0_
   have hg_0 : w12.cell? ⟨g, 0, none⟩ = some (.map (some m)) := (blk_cell HP.out.1.blk 0).trans rfl
   have hg_1 : w12.cell? ⟨g, 1, none⟩ = some (.int .i64 s0_0.n) := (blk_cell HP.out.1.blk 1).trans rfl
   have hg_2 : w12.cell? ⟨g, 2, none⟩ = some (.int .i64 s0_0.o) := (blk_cell HP.out.1.blk 2).trans rfl
   have hg_3 : w12.cell? ⟨g, 3, none⟩ = some (.int .i64 s0_0.b) := (blk_cell HP.out.1.blk 3).trans rfl
   have hfg_0 := blk_frozen HP.out.1.blk 0
   have hfg_1 := blk_frozen HP.out.1.blk 1
   have hfg_2 := blk_frozen HP.out.1.blk 2
   have hfg_3 := blk_frozen HP.out.1.blk 3
   go_wp2_with (first | ((with_reducible refine gate_callee (f := 22) rfl ?_); refine goesL_ (some 132) rfl rfl Try.func22 (by kernel_rfl) rfl #[.pointer (some ⟨c, 0, none⟩)] rfl (by (try simp only [List.map_toArray, List.map_cons, List.map_nil]); first | done | rfl) ?_; (refine (probe_cluster_result.calls k c (x.c0) (x.c1) (x.c2) (cn) (by_) (a3) (a3) (a2) (a4) (a4) (a2) y0 y1 y2 y3 y4 y5 y6 y7 y8 y9 y10 y11 w0 _ ⟨HP.out.1.cb, HP.out.1.cge⟩ HP.out.2.1 AR.out).mono ?_); rintro e w13 ⟨rfl, hi, hb, hk⟩; refine ⟨_, rfl, ?_⟩; have n0_ := Aside0.mk (PF.res HP.out hi hb hk); clear HP; have HP := n0_; clear n0_; clear hi hb hk; clear hg_0 hfg_0 hg_1 hfg_1 hg_2 hfg_2 hg_3 hfg_3; have hg_0 : w13.cell? ⟨g, 0, none⟩ = some (.map (some m)) := (blk_cell HP.out.1.blk 0).trans rfl; have hg_1 : w13.cell? ⟨g, 1, none⟩ = some (.int .i64 s0_0.n) := (blk_cell HP.out.1.blk 1).trans rfl; have hg_2 : w13.cell? ⟨g, 2, none⟩ = some (.int .i64 s0_0.o) := (blk_cell HP.out.1.blk 2).trans rfl; have hg_3 : w13.cell? ⟨g, 3, none⟩ = some (.int .i64 s0_0.b) := (blk_cell HP.out.1.blk 3).trans rfl; have hfg_0 := blk_frozen HP.out.1.blk 0; have hfg_1 := blk_frozen HP.out.1.blk 1; have hfg_2 := blk_frozen HP.out.1.blk 2; have hfg_3 := blk_frozen HP.out.1.blk 3))
   have hF := HP.out.setg (f0' := s0_0.n) (f1' := s0_0.o) (f2' := b2) 3 (.int .i64 b2) rfl
   go_ret
   exact ⟨rfl, hL ▸ hF.1.back (y := ⟨y1, y2, y3, y4, y5, y6, y7, y8, y9, y10, y11⟩) hn rfl, hF.2.1, hF.2.2⟩
  ·rw [if_neg c7] at h
   by_cases c8 : x.c6 ≤ a3
   ·rw [if_pos c8] at h
    by_cases c9 : a4 < x.c8
    ·rw [if_pos c9] at h
     have k7b : (x.c3 == 0) = false := beq_eq_false_iff_ne.mpr c7
     have k8b : decide (x.c6 ≤ a3) = true := decide_eq_true c8
     have k9b : decide (a4 < x.c8) = true := decide_eq_true c9
     have C7 := Aside0.mk c7
     clear c7 c8 c9
     simp only [gotu, Option.bind_eq_some_iff] at h
     obtain ⟨fr2, hf_, la2, hla_, cn, hcn_, by_, hby_, b, AR_, b2, hb2_, h⟩ := h
     have hfr : (if a3 < x.c5 then a3 else x.c5) = fr2 := Option.some.inj hf_
     have hla : (if x.c9 < a4 then a4 else x.c9) = la2 := Option.some.inj hla_
     clear hf_ hla_
     have hcn := Option.some.inj hcn_
     have hby := Option.some.inj hby_
     obtain ⟨y0, y1, y2, y3, y4, y5, y6, y7, y8, y9, y10, y11⟩ := b
     have hb2 : (if s0_0.b < y0 then y0 else s0_0.b) = b2 := Option.some.inj hb2_
     have AR := Aside0.mk AR_
     clear hcn_ hby_ hb2_ AR_
     simp only [Option.some.injEq, Prod.mk.injEq] at h
     obtain ⟨rfl, rfl⟩ := h
     go_enter Try.func10, Try.ntmps10
     go_upto_region 7 with (first | (go_at_call 20; (with_reducible refine (probe_good.calls a2 a3 _ _ A1.out).mono ?_); rintro e w5 ⟨rfl, hd⟩; have hb5 : Below w.heap.size w w5 := (by obtain ⟨n, rfl⟩ := hd.out; exact pw_below_drewN (Below.refl _ _) n); have n0_ := Aside0.mk (PF.below HP.out hb5); clear HP hd hb5; have HP := n0_; clear n0_; have hg_0 : w5.cell? ⟨g, 0, none⟩ = some (.map (some m)) := (blk_cell HP.out.1.blk 0).trans rfl; have hg_1 : w5.cell? ⟨g, 1, none⟩ = some (.int .i64 s0_0.n) := (blk_cell HP.out.1.blk 1).trans rfl; have hg_2 : w5.cell? ⟨g, 2, none⟩ = some (.int .i64 s0_0.o) := (blk_cell HP.out.1.blk 2).trans rfl; have hg_3 : w5.cell? ⟨g, 3, none⟩ = some (.int .i64 s0_0.b) := (blk_cell HP.out.1.blk 3).trans rfl; have hfg_0 := blk_frozen HP.out.1.blk 0; have hfg_1 := blk_frozen HP.out.1.blk 1; have hfg_2 := blk_frozen HP.out.1.blk 2; have hfg_3 := blk_frozen HP.out.1.blk 3; have hc_0 := (blk_cell HP.out.1.cb 0).trans rfl; have hc_1 := (blk_cell HP.out.1.cb 1).trans rfl; have hc_2 := (blk_cell HP.out.1.cb 2).trans rfl; have hc_3 := (blk_cell HP.out.1.cb 3).trans rfl; have hc_4 := (blk_cell HP.out.1.cb 4).trans rfl; have hc_5 := (blk_cell HP.out.1.cb 5).trans rfl; have hc_6 := (blk_cell HP.out.1.cb 6).trans rfl; have hc_7 := (blk_cell HP.out.1.cb 7).trans rfl; have hc_8 := (blk_cell HP.out.1.cb 8).trans rfl; have hc_9 := (blk_cell HP.out.1.cb 9).trans rfl; have hc_10 := (blk_cell HP.out.1.cb 10).trans rfl; have hfc_0 := blk_frozen HP.out.1.cb 0; have hfc_1 := blk_frozen HP.out.1.cb 1; have hfc_2 := blk_frozen HP.out.1.cb 2; have hfc_3 := blk_frozen HP.out.1.cb 3; have hfc_4 := blk_frozen HP.out.1.cb 4; have hfc_5 := blk_frozen HP.out.1.cb 5; have hfc_6 := blk_frozen HP.out.1.cb 6; have hfc_7 := blk_frozen HP.out.1.cb 7; have hfc_8 := blk_frozen HP.out.1.cb 8; have hfc_9 := blk_frozen HP.out.1.cb 9; have hfc_10 := blk_frozen HP.out.1.cb 10; have hlk := look_in Try.underlying40 Try.underlying3 HP.out.1.mp HF.out true))
     have hx0_7 := blk_frozen (PF.setc HP.out 6 (.int .i64 a3)).1.cb 7
     have hy0_7 := (blk_cell (PF.setc HP.out 6 (.int .i64 a3)).1.cb 7).trans rfl
     go_upto_region 9 with (first | fail)
     clear hx0_7 hy0_7
     have n0_ : Aside0 (PF w0 w ((w5.setCell ⟨c, 6, none⟩ (.int .i64 a3)).setCell ⟨c, 7, none⟩ (.int .i64 a2)) g m s0_0.n s0_0.o s0_0.b (keysOf (L1 ++ (a1, c, x) :: L2)) (rowsOf L1 ++ (c, #[.int .i64 x.c0, .int .i64 x.c1, .int .i64 x.c2, .int .i64 x.c3, .int .i64 x.c4, .int .i64 x.c5, .int .i64 a3, .int .i64 a2, .int .i64 x.c8, .int .i64 x.c9, .int .i64 x.c10]) :: rowsOf L2)) := ⟨(PF.setc (PF.setc HP.out 6 (.int .i64 a3)) 7 (.int .i64 a2))⟩
     clear HP
     clear hg_0 hfg_0 hg_1 hfg_1 hg_2 hfg_2 hg_3 hfg_3
     clear hc_0 hfc_0 hc_1 hfc_1 hc_2 hfc_2 hc_3 hfc_3 hc_4 hfc_4 hc_5 hfc_5 hc_6 hfc_6 hc_7 hfc_7 hc_8 hfc_8 hc_9 hfc_9 hc_10 hfc_10
     generalize ((w5.setCell ⟨c, 6, none⟩ (.int .i64 a3)).setCell ⟨c, 7, none⟩ (.int .i64 a2)) = w6 at n0_ ⊢
     have HP := n0_
     clear n0_
     have hg_0 : w6.cell? ⟨g, 0, none⟩ = some (.map (some m)) := (blk_cell HP.out.1.blk 0).trans rfl
     have hg_1 : w6.cell? ⟨g, 1, none⟩ = some (.int .i64 s0_0.n) := (blk_cell HP.out.1.blk 1).trans rfl
     have hg_2 : w6.cell? ⟨g, 2, none⟩ = some (.int .i64 s0_0.o) := (blk_cell HP.out.1.blk 2).trans rfl
     have hg_3 : w6.cell? ⟨g, 3, none⟩ = some (.int .i64 s0_0.b) := (blk_cell HP.out.1.blk 3).trans rfl
     have hfg_0 := blk_frozen HP.out.1.blk 0
     have hfg_1 := blk_frozen HP.out.1.blk 1
     have hfg_2 := blk_frozen HP.out.1.blk 2
     have hfg_3 := blk_frozen HP.out.1.blk 3
     have hc_0 := (blk_cell HP.out.1.cb 0).trans rfl
     have hc_1 := (blk_cell HP.out.1.cb 1).trans rfl
     have hc_2 := (blk_cell HP.out.1.cb 2).trans rfl
     have hc_3 := (blk_cell HP.out.1.cb 3).trans rfl
     have hc_4 := (blk_cell HP.out.1.cb 4).trans rfl
     have hc_5 := (blk_cell HP.out.1.cb 5).trans rfl
     have hc_6 := (blk_cell HP.out.1.cb 6).trans rfl
     have hc_7 := (blk_cell HP.out.1.cb 7).trans rfl
     have hc_8 := (blk_cell HP.out.1.cb 8).trans rfl
     have hc_9 := (blk_cell HP.out.1.cb 9).trans rfl
     have hc_10 := (blk_cell HP.out.1.cb 10).trans rfl
     have hfc_0 := blk_frozen HP.out.1.cb 0
     have hfc_1 := blk_frozen HP.out.1.cb 1
     have hfc_2 := blk_frozen HP.out.1.cb 2
     have hfc_3 := blk_frozen HP.out.1.cb 3
     have hfc_4 := blk_frozen HP.out.1.cb 4
     have hfc_5 := blk_frozen HP.out.1.cb 5
     have hfc_6 := blk_frozen HP.out.1.cb 6
     have hfc_7 := blk_frozen HP.out.1.cb 7
     have hfc_8 := blk_frozen HP.out.1.cb 8
     have hfc_9 := blk_frozen HP.out.1.cb 9
     have hfc_10 := blk_frozen HP.out.1.cb 10
     have hx0_10 := blk_frozen (PF.setc HP.out 8 (.int .i64 a4)).1.cb 10
     have hy0_10 := (blk_cell (PF.setc HP.out 8 (.int .i64 a4)).1.cb 10).trans rfl
     go_upto_region 11 with (first | fail)
     clear hx0_10 hy0_10
     have n0_ : Aside0 (PF w0 w ((w6.setCell ⟨c, 8, none⟩ (.int .i64 a4)).setCell ⟨c, 10, none⟩ (.int .i64 a2)) g m s0_0.n s0_0.o s0_0.b (keysOf (L1 ++ (a1, c, x) :: L2)) (rowsOf L1 ++ (c, #[.int .i64 x.c0, .int .i64 x.c1, .int .i64 x.c2, .int .i64 x.c3, .int .i64 x.c4, .int .i64 x.c5, .int .i64 a3, .int .i64 a2, .int .i64 a4, .int .i64 x.c9, .int .i64 a2]) :: rowsOf L2)) := ⟨(PF.setc (PF.setc HP.out 8 (.int .i64 a4)) 10 (.int .i64 a2))⟩
     clear HP
     clear hg_0 hfg_0 hg_1 hfg_1 hg_2 hfg_2 hg_3 hfg_3
     clear hc_0 hfc_0 hc_1 hfc_1 hc_2 hfc_2 hc_3 hfc_3 hc_4 hfc_4 hc_5 hfc_5 hc_6 hfc_6 hc_7 hfc_7 hc_8 hfc_8 hc_9 hfc_9 hc_10 hfc_10
     generalize ((w6.setCell ⟨c, 8, none⟩ (.int .i64 a4)).setCell ⟨c, 10, none⟩ (.int .i64 a2)) = w7 at n0_ ⊢
     have HP := n0_
     clear n0_
     have hg_0 : w7.cell? ⟨g, 0, none⟩ = some (.map (some m)) := (blk_cell HP.out.1.blk 0).trans rfl
     have hg_1 : w7.cell? ⟨g, 1, none⟩ = some (.int .i64 s0_0.n) := (blk_cell HP.out.1.blk 1).trans rfl
     have hg_2 : w7.cell? ⟨g, 2, none⟩ = some (.int .i64 s0_0.o) := (blk_cell HP.out.1.blk 2).trans rfl
     have hg_3 : w7.cell? ⟨g, 3, none⟩ = some (.int .i64 s0_0.b) := (blk_cell HP.out.1.blk 3).trans rfl
     have hfg_0 := blk_frozen HP.out.1.blk 0
     have hfg_1 := blk_frozen HP.out.1.blk 1
     have hfg_2 := blk_frozen HP.out.1.blk 2
     have hfg_3 := blk_frozen HP.out.1.blk 3
     have hc_0 := (blk_cell HP.out.1.cb 0).trans rfl
     have hc_1 := (blk_cell HP.out.1.cb 1).trans rfl
     have hc_2 := (blk_cell HP.out.1.cb 2).trans rfl
     have hc_3 := (blk_cell HP.out.1.cb 3).trans rfl
     have hc_4 := (blk_cell HP.out.1.cb 4).trans rfl
     have hc_5 := (blk_cell HP.out.1.cb 5).trans rfl
     have hc_6 := (blk_cell HP.out.1.cb 6).trans rfl
     have hc_7 := (blk_cell HP.out.1.cb 7).trans rfl
     have hc_8 := (blk_cell HP.out.1.cb 8).trans rfl
     have hc_9 := (blk_cell HP.out.1.cb 9).trans rfl
     have hc_10 := (blk_cell HP.out.1.cb 10).trans rfl
     have hfc_0 := blk_frozen HP.out.1.cb 0
     have hfc_1 := blk_frozen HP.out.1.cb 1
     have hfc_2 := blk_frozen HP.out.1.cb 2
     have hfc_3 := blk_frozen HP.out.1.cb 3
     have hfc_4 := blk_frozen HP.out.1.cb 4
     have hfc_5 := blk_frozen HP.out.1.cb 5
     have hfc_6 := blk_frozen HP.out.1.cb 6
     have hfc_7 := blk_frozen HP.out.1.cb 7
     have hfc_8 := blk_frozen HP.out.1.cb 8
     have hfc_9 := blk_frozen HP.out.1.cb 9
     have hfc_10 := blk_frozen HP.out.1.cb 10
     go_upto_region 13 with (first | fail)
     clear hg_0 hfg_0 hg_1 hfg_1 hg_2 hfg_2 hg_3 hfg_3
     clear hc_0 hfc_0 hc_1 hfc_1 hc_2 hfc_2 hc_3 hfc_3 hc_4 hfc_4 hc_5 hfc_5 hc_6 hfc_6 hc_7 hfc_7 hc_8 hfc_8 hc_9 hfc_9 hc_10 hfc_10
     have n0_ := Aside0.mk (PF.drew HP.out)
     clear HP
     have HP := n0_
     clear n0_
     refine start_ (n := 20) (S := fun w' => w'.cell? ⟨c, 5, none⟩ = some (.int .i64 x.c5) ∧ w'.cell? ⟨c, 9, none⟩ = some (.int .i64 x.c9)) (ds := [16, 19]) #[false, false, false, false, false, false, false, false, false, false, false, false, false, false, false, false, false, false, false, false] (by kernel_rfl) rfl rfl ⟨(blk_cell HP.out.1.cb 5).trans rfl, (blk_cell HP.out.1.cb 9).trans rfl⟩ (fun hHeld => ?_); refine with_tabW probe_Probe_Got.tab13 probe_Probe_Got.bits13 (fun HT_ HW_ => ?_)
     generalize World.drew w7 = w9 at HP hHeld ⊢
     refine pure_ (i := 0) (N := some 98) (v := ?_) (a' := ?_) #[true, false, false, false, false, false, false, false, false, false, false, false, false, false, false, false, false, false, false, false] rfl rfl (any_of HT_.out (by kernel_rfl)) (fun _ _ _ h => h) (Or.inl ⟨by rfl, ?_⟩) ?_ ?_
     rotate_left
     ·intro w'
      go_simp
      with_reducible rfl
     rotate_left
     ·simp only [Act.put, List.setIfInBounds_toArray, List.set_cons_zero, List.set_cons_succ, i64_w, i32_w]
      rfl
     refine pure_ (i := 1) (N := some 99) (v := ?_) (a' := ?_) #[true, true, false, false, false, false, false, false, false, false, false, false, false, false, false, false, false, false, false, false] rfl rfl (any_of HT_.out (by kernel_rfl)) (fun _ _ _ h => h) (Or.inl ⟨by rfl, ?_⟩) ?_ ?_
     rotate_left
     ·intro w'
      go_simp
      with_reducible rfl
     rotate_left
     ·simp only [Act.put, List.setIfInBounds_toArray, List.set_cons_zero, List.set_cons_succ, i64_w, i32_w]
      rfl
     refine pure_ (i := 2) (N := some 100) (v := ?_) (a' := ?_) #[true, true, true, false, false, false, false, false, false, false, false, false, false, false, false, false, false, false, false, false] rfl rfl (any_of HT_.out (by kernel_rfl)) (fun _ _ _ h => h) (Or.inl ⟨by rfl, ?_⟩) ?_ ?_
     rotate_left
     ·intro w'
      go_simp
      with_reducible rfl
     rotate_left
     ·simp only [Act.put, List.setIfInBounds_toArray, List.set_cons_zero, List.set_cons_succ, i64_w, i32_w]
      rfl
     refine pure_ (i := 3) (N := some 101) (v := ?_) (a' := ?_) #[true, true, true, true, false, false, false, false, false, false, false, false, false, false, false, false, false, false, false, false] rfl rfl (any_of HT_.out (by kernel_rfl)) (fun _ _ _ h => h) (Or.inl ⟨by rfl, ?_⟩) ?_ ?_
     rotate_left
     ·intro w'
      go_simp
      with_reducible rfl
     rotate_left
     ·simp only [Act.put, List.setIfInBounds_toArray, List.set_cons_zero, List.set_cons_succ, i64_w, i32_w]
      rfl
     refine pure_ (i := 4) (N := some 102) (v := ?_) (a' := ?_) #[true, true, true, true, true, false, false, false, false, false, false, false, false, false, false, false, false, false, false, false] rfl rfl (any_of HT_.out (by kernel_rfl)) (fun _ _ _ h => h) (Or.inl ⟨by rfl, ?_⟩) ?_ ?_
     rotate_left
     ·intro w'
      go_simp
      with_reducible rfl
     rotate_left
     ·simp only [Act.put, List.setIfInBounds_toArray, List.set_cons_zero, List.set_cons_succ, i64_w, i32_w]
      rfl
     refine take_ (i := 5) (N := some 103) (v := ?_) (a' := ?_) #[true, true, true, true, true, true, false, false, false, false, false, false, false, false, false, false, false, false, false, false] rfl rfl (take_ofW HT_.out HW_.out (by kernel_rfl)) (fun _ _ _ h => h) (Or.inl ⟨by rfl, ?_⟩) hHeld ?_ ?_
     rotate_left
     ·rintro w' ⟨s0, s1⟩
      go_simp
      with_reducible rfl
     rotate_left
     ·simp only [Act.put, List.setIfInBounds_toArray, List.set_cons_zero, List.set_cons_succ, i64_w, i32_w]
      rfl
     refine pure_ (i := 6) (N := some 104) (v := ?_) (a' := ?_) #[true, true, true, true, true, true, true, false, false, false, false, false, false, false, false, false, false, false, false, false] rfl rfl (any_of HT_.out (by kernel_rfl)) (fun _ _ _ h => h) (Or.inl ⟨by rfl, ?_⟩) ?_ ?_
     rotate_left
     ·intro w'
      go_simp
      with_reducible rfl
     rotate_left
     ·simp only [Act.put, List.setIfInBounds_toArray, List.set_cons_zero, List.set_cons_succ, i64_w, i32_w]
      rfl
     refine pure_ (i := 7) (N := some 105) (v := ?_) (a' := ?_) #[true, true, true, true, true, true, true, true, false, false, false, false, false, false, false, false, false, false, false, false] rfl rfl (any_of HT_.out (by kernel_rfl)) (fun _ _ _ h => h) (Or.inl ⟨by rfl, ?_⟩) ?_ ?_
     rotate_left
     ·intro w'
      go_simp
      with_reducible rfl
     rotate_left
     ·simp only [Act.put, List.setIfInBounds_toArray, List.set_cons_zero, List.set_cons_succ, i64_w, i32_w]
      rfl
     refine pure_ (i := 8) (N := some 106) (v := ?_) (a' := ?_) #[true, true, true, true, true, true, true, true, true, false, false, false, false, false, false, false, false, false, false, false] rfl rfl (any_of HT_.out (by kernel_rfl)) (fun _ _ _ h => h) (Or.inl ⟨by rfl, ?_⟩) ?_ ?_
     rotate_left
     ·intro w'
      go_simp
      with_reducible rfl
     rotate_left
     ·simp only [Act.put, List.setIfInBounds_toArray, List.set_cons_zero, List.set_cons_succ, i64_w, i32_w]
      rfl
     refine pure_ (i := 9) (N := some 107) (v := ?_) (a' := ?_) #[true, true, true, true, true, true, true, true, true, true, false, false, false, false, false, false, false, false, false, false] rfl rfl (any_of HT_.out (by kernel_rfl)) (fun _ _ _ h => h) (Or.inl ⟨by rfl, ?_⟩) ?_ ?_
     rotate_left
     ·intro w'
      go_simp
      with_reducible rfl
     rotate_left
     ·simp only [Act.put, List.setIfInBounds_toArray, List.set_cons_zero, List.set_cons_succ, i64_w, i32_w]
      rfl
     refine pure_ (i := 10) (N := some 108) (v := ?_) (a' := ?_) #[true, true, true, true, true, true, true, true, true, true, true, false, false, false, false, false, false, false, false, false] rfl rfl (any_of HT_.out (by kernel_rfl)) (fun _ _ _ h => h) (Or.inl ⟨by rfl, ?_⟩) ?_ ?_
     rotate_left
     ·intro w'
      go_simp
      with_reducible rfl
     rotate_left
     ·simp only [Act.put, List.setIfInBounds_toArray, List.set_cons_zero, List.set_cons_succ, i64_w, i32_w]
      rfl
     refine take_ (i := 11) (N := some 109) (v := ?_) (a' := ?_) #[true, true, true, true, true, true, true, true, true, true, true, true, false, false, false, false, false, false, false, false] rfl rfl (take_ofW HT_.out HW_.out (by kernel_rfl)) (fun _ _ _ h => h) (Or.inl ⟨by rfl, ?_⟩) hHeld ?_ ?_
     rotate_left
     ·rintro w' ⟨s0, s1⟩
      go_simp
      with_reducible rfl
     rotate_left
     ·simp only [Act.put, List.setIfInBounds_toArray, List.set_cons_zero, List.set_cons_succ, i64_w, i32_w]
      rfl
     refine pure_ (i := 12) (N := some 110) (v := ?_) (a' := ?_) #[true, true, true, true, true, true, true, true, true, true, true, true, true, false, false, false, false, false, false, false] rfl rfl (any_of HT_.out (by kernel_rfl)) (fun _ _ _ h => h) (Or.inl ⟨by rfl, ?_⟩) ?_ ?_
     rotate_left
     ·intro w'
      go_simp
      with_reducible rfl
     rotate_left
     ·simp only [Act.put, List.setIfInBounds_toArray, List.set_cons_zero, List.set_cons_succ, i64_w, i32_w]
      rfl
     refine pure_ (i := 13) (N := some 111) (v := ?_) (a' := ?_) #[true, true, true, true, true, true, true, true, true, true, true, true, true, true, false, false, false, false, false, false] rfl rfl (any_of HT_.out (by kernel_rfl)) (fun _ _ _ h => h) (Or.inl ⟨by rfl, ?_⟩) ?_ ?_
     rotate_left
     ·intro w'
      go_simp
      with_reducible rfl
     rotate_left
     ·simp only [Act.put, List.setIfInBounds_toArray, List.set_cons_zero, List.set_cons_succ, i64_w, i32_w]
      rfl
     refine pure_ (i := 14) (N := some 112) (v := ?_) (a' := ?_) #[true, true, true, true, true, true, true, true, true, true, true, true, true, true, true, false, false, false, false, false] rfl rfl (any_of HT_.out (by kernel_rfl)) (fun _ _ _ h => h) (Or.inl ⟨by rfl, ?_⟩) ?_ ?_
     rotate_left
     ·intro w'
      go_simp
      with_reducible rfl
     rotate_left
     ·simp only [Act.put, List.setIfInBounds_toArray, List.set_cons_zero, List.set_cons_succ, i64_w, i32_w]
      rfl
     refine pure_ (i := 15) (N := some 113) (v := ?_) (a' := ?_) #[true, true, true, true, true, true, true, true, true, true, true, true, true, true, true, true, false, false, false, false] rfl rfl (any_of HT_.out (by kernel_rfl)) (fun _ _ _ h => h) (Or.inl ⟨by rfl, ?_⟩) ?_ ?_
     rotate_left
     ·intro w'
      go_simp
      with_reducible rfl
     rotate_left
     ·simp only [Act.put, List.setIfInBounds_toArray, List.set_cons_zero, List.set_cons_succ, i64_w, i32_w]
      rfl
     refine last_ (i := 16) (N := none) #[true, true, true, true, true, true, true, true, true, true, true, true, true, true, true, true, true, false, false, false] rfl rfl (one_of HT_.out (by kernel_rfl)) (by decide) (fun K hK => ?_)
     have hs_ : w9.cell? ⟨c, 5, none⟩ = some (.int .i64 x.c5) := (blk_cell HP.out.1.cb 5).trans rfl
     have hfs_ := blk_frozen HP.out.1.cb 5
     refine skip_ (w1 := ?_) (by rfl) rfl ?_ ?_
     rotate_left
     ·go_simp
      rfl
     have n0_ : Aside0 (PF w0 w (w9.setCell ⟨c, 5, none⟩ (.int .i64 fr2)) g m s0_0.n s0_0.o s0_0.b (keysOf (L1 ++ (a1, c, x) :: L2)) (rowsOf L1 ++ (c, #[.int .i64 x.c0, .int .i64 x.c1, .int .i64 x.c2, .int .i64 x.c3, .int .i64 x.c4, .int .i64 fr2, .int .i64 a3, .int .i64 a2, .int .i64 a4, .int .i64 x.c9, .int .i64 a2]) :: rowsOf L2)) := ⟨HP.out.setc 5 _⟩
     clear HP hs_ hfs_
     have HP := n0_
     clear n0_
     generalize (w9.setCell ⟨c, 5, none⟩ (.int .i64 fr2)) = w10 at HP ⊢
     refine hK.out _ _ ?_
     clear hK K
     refine pure_ (i := 17) (N := some 114) (v := ?_) (a' := ?_) #[true, true, true, true, true, true, true, true, true, true, true, true, true, true, true, true, true, true, false, false] rfl rfl (any_of HT_.out (by kernel_rfl)) (fun _ _ _ h => h) (Or.inl ⟨by rfl, ?_⟩) ?_ ?_
     rotate_left
     ·intro w'
      go_simp
      with_reducible rfl
     rotate_left
     ·simp only [Act.put, List.setIfInBounds_toArray, List.set_cons_zero, List.set_cons_succ, i64_w, i32_w]
      rfl
     refine pure_ (i := 18) (N := some 115) (v := ?_) (a' := ?_) #[true, true, true, true, true, true, true, true, true, true, true, true, true, true, true, true, true, true, true, false] rfl rfl (any_of HT_.out (by kernel_rfl)) (fun _ _ _ h => h) (Or.inl ⟨by rfl, ?_⟩) ?_ ?_
     rotate_left
     ·intro w'
      go_simp
      with_reducible rfl
     rotate_left
     ·simp only [Act.put, List.setIfInBounds_toArray, List.set_cons_zero, List.set_cons_succ, i64_w, i32_w]
      rfl
     refine last_ (i := 19) (N := none) #[true, true, true, true, true, true, true, true, true, true, true, true, true, true, true, true, true, true, true, true] rfl rfl (one_of HT_.out (by kernel_rfl)) (by decide) (fun K hK => ?_)
     have hs_ : w10.cell? ⟨c, 9, none⟩ = some (.int .i64 x.c9) := (blk_cell HP.out.1.cb 9).trans rfl
     have hfs_ := blk_frozen HP.out.1.cb 9
     refine skip_ (w1 := ?_) (by rfl) rfl ?_ ?_
     rotate_left
     ·go_simp
      rfl
     have n0_ : Aside0 (PF w0 w (w10.setCell ⟨c, 9, none⟩ (.int .i64 la2)) g m s0_0.n s0_0.o s0_0.b (keysOf (L1 ++ (a1, c, x) :: L2)) (rowsOf L1 ++ (c, #[.int .i64 x.c0, .int .i64 x.c1, .int .i64 x.c2, .int .i64 x.c3, .int .i64 x.c4, .int .i64 fr2, .int .i64 a3, .int .i64 a2, .int .i64 a4, .int .i64 la2, .int .i64 a2]) :: rowsOf L2)) := ⟨HP.out.setc 9 _⟩
     clear HP hs_ hfs_
     have HP := n0_
     clear n0_
     generalize (w10.setCell ⟨c, 9, none⟩ (.int .i64 la2)) = w11 at HP ⊢
     refine hK.out _ _ ?_
     clear hK K
     refine done_ (done_of HT_.out (by kernel_rfl)) ?_
     clear hHeld HT_ HW_
     have hg_0 : w11.cell? ⟨g, 0, none⟩ = some (.map (some m)) := (blk_cell HP.out.1.blk 0).trans rfl
     have hg_1 : w11.cell? ⟨g, 1, none⟩ = some (.int .i64 s0_0.n) := (blk_cell HP.out.1.blk 1).trans rfl
     have hg_2 : w11.cell? ⟨g, 2, none⟩ = some (.int .i64 s0_0.o) := (blk_cell HP.out.1.blk 2).trans rfl
     have hg_3 : w11.cell? ⟨g, 3, none⟩ = some (.int .i64 s0_0.b) := (blk_cell HP.out.1.blk 3).trans rfl
     have hfg_0 := blk_frozen HP.out.1.blk 0
     have hfg_1 := blk_frozen HP.out.1.blk 1
     have hfg_2 := blk_frozen HP.out.1.blk 2
     have hfg_3 := blk_frozen HP.out.1.blk 3
     have hc_0 := (blk_cell HP.out.1.cb 0).trans rfl
     have hc_1 := (blk_cell HP.out.1.cb 1).trans rfl
     have hc_2 := (blk_cell HP.out.1.cb 2).trans rfl
     have hc_3 := (blk_cell HP.out.1.cb 3).trans rfl
     have hc_4 := (blk_cell HP.out.1.cb 4).trans rfl
     have hc_5 := (blk_cell HP.out.1.cb 5).trans rfl
     have hc_6 := (blk_cell HP.out.1.cb 6).trans rfl
     have hc_7 := (blk_cell HP.out.1.cb 7).trans rfl
     have hc_8 := (blk_cell HP.out.1.cb 8).trans rfl
     have hc_9 := (blk_cell HP.out.1.cb 9).trans rfl
     have hc_10 := (blk_cell HP.out.1.cb 10).trans rfl
     have hfc_0 := blk_frozen HP.out.1.cb 0
     have hfc_1 := blk_frozen HP.out.1.cb 1
     have hfc_2 := blk_frozen HP.out.1.cb 2
     have hfc_3 := blk_frozen HP.out.1.cb 3
     have hfc_4 := blk_frozen HP.out.1.cb 4
     have hfc_5 := blk_frozen HP.out.1.cb 5
     have hfc_6 := blk_frozen HP.out.1.cb 6
     have hfc_7 := blk_frozen HP.out.1.cb 7
     have hfc_8 := blk_frozen HP.out.1.cb 8
     have hfc_9 := blk_frozen HP.out.1.cb 9
     have hfc_10 := blk_frozen HP.out.1.cb 10
     have hx0_4 := blk_frozen (PF.setc HP.out 3 (.int .i64 cn)).1.cb 4
     have hy0_4 := (blk_cell (PF.setc HP.out 3 (.int .i64 cn)).1.cb 4).trans rfl
     go_upto_region 16 with (first | fail)
     clear hx0_4 hy0_4
     have n0_ : Aside0 (PF w0 w ((w11.setCell ⟨c, 3, none⟩ (.int .i64 cn)).setCell ⟨c, 4, none⟩ (.int .i64 by_)) g m s0_0.n s0_0.o s0_0.b (keysOf (L1 ++ (a1, c, x) :: L2)) (rowsOf L1 ++ (c, #[.int .i64 x.c0, .int .i64 x.c1, .int .i64 x.c2, .int .i64 cn, .int .i64 by_, .int .i64 fr2, .int .i64 a3, .int .i64 a2, .int .i64 a4, .int .i64 la2, .int .i64 a2]) :: rowsOf L2)) := ⟨(PF.setc (PF.setc HP.out 3 (.int .i64 cn)) 4 (.int .i64 by_))⟩
     clear HP
     clear hg_0 hfg_0 hg_1 hfg_1 hg_2 hfg_2 hg_3 hfg_3
     clear hc_0 hfc_0 hc_1 hfc_1 hc_2 hfc_2 hc_3 hfc_3 hc_4 hfc_4 hc_5 hfc_5 hc_6 hfc_6 hc_7 hfc_7 hc_8 hfc_8 hc_9 hfc_9 hc_10 hfc_10
     generalize ((w11.setCell ⟨c, 3, none⟩ (.int .i64 cn)).setCell ⟨c, 4, none⟩ (.int .i64 by_)) = w12 at n0_ ⊢
     have HP := n0_
     clear n0_
     have hg_0 : w12.cell? ⟨g, 0, none⟩ = some (.map (some m)) := (blk_cell HP.out.1.blk 0).trans rfl
     have hg_1 : w12.cell? ⟨g, 1, none⟩ = some (.int .i64 s0_0.n) := (blk_cell HP.out.1.blk 1).trans rfl
     have hg_2 : w12.cell? ⟨g, 2, none⟩ = some (.int .i64 s0_0.o) := (blk_cell HP.out.1.blk 2).trans rfl
     have hg_3 : w12.cell? ⟨g, 3, none⟩ = some (.int .i64 s0_0.b) := (blk_cell HP.out.1.blk 3).trans rfl
     have hfg_0 := blk_frozen HP.out.1.blk 0
     have hfg_1 := blk_frozen HP.out.1.blk 1
     have hfg_2 := blk_frozen HP.out.1.blk 2
     have hfg_3 := blk_frozen HP.out.1.blk 3
     go_wp2_with (first | ((with_reducible refine gate_callee (f := 22) rfl ?_); refine goesL_ (some 132) rfl rfl Try.func22 (by kernel_rfl) rfl #[.pointer (some ⟨c, 0, none⟩)] rfl (by (try simp only [List.map_toArray, List.map_cons, List.map_nil]); first | done | rfl) ?_; (refine (probe_cluster_result.calls k c (x.c0) (x.c1) (x.c2) (cn) (by_) (fr2) (a3) (a2) (a4) (la2) (a2) y0 y1 y2 y3 y4 y5 y6 y7 y8 y9 y10 y11 w0 _ ⟨HP.out.1.cb, HP.out.1.cge⟩ HP.out.2.1 AR.out).mono ?_); rintro e w13 ⟨rfl, hi, hb, hk⟩; refine ⟨_, rfl, ?_⟩; have n0_ := Aside0.mk (PF.res HP.out hi hb hk); clear HP; have HP := n0_; clear n0_; clear hi hb hk; clear hg_0 hfg_0 hg_1 hfg_1 hg_2 hfg_2 hg_3 hfg_3; have hg_0 : w13.cell? ⟨g, 0, none⟩ = some (.map (some m)) := (blk_cell HP.out.1.blk 0).trans rfl; have hg_1 : w13.cell? ⟨g, 1, none⟩ = some (.int .i64 s0_0.n) := (blk_cell HP.out.1.blk 1).trans rfl; have hg_2 : w13.cell? ⟨g, 2, none⟩ = some (.int .i64 s0_0.o) := (blk_cell HP.out.1.blk 2).trans rfl; have hg_3 : w13.cell? ⟨g, 3, none⟩ = some (.int .i64 s0_0.b) := (blk_cell HP.out.1.blk 3).trans rfl; have hfg_0 := blk_frozen HP.out.1.blk 0; have hfg_1 := blk_frozen HP.out.1.blk 1; have hfg_2 := blk_frozen HP.out.1.blk 2; have hfg_3 := blk_frozen HP.out.1.blk 3))
     have hF := HP.out.setg (f0' := s0_0.n) (f1' := s0_0.o) (f2' := b2) 3 (.int .i64 b2) rfl
     go_ret
     exact ⟨rfl, hL ▸ hF.1.back (y := ⟨y1, y2, y3, y4, y5, y6, y7, y8, y9, y10, y11⟩) hn rfl, hF.2.1, hF.2.2⟩
    ·rw [if_neg c9] at h
     have k7b : (x.c3 == 0) = false := beq_eq_false_iff_ne.mpr c7
     have k8b : decide (x.c6 ≤ a3) = true := decide_eq_true c8
     have k9b : decide (a4 < x.c8) = false := decide_eq_false c9
     have C7 := Aside0.mk c7
     clear c7 c8 c9
     simp only [gotu, Option.bind_eq_some_iff] at h
     obtain ⟨fr2, hf_, la2, hla_, cn, hcn_, by_, hby_, b, AR_, b2, hb2_, h⟩ := h
     have hfr : (if a3 < x.c5 then a3 else x.c5) = fr2 := Option.some.inj hf_
     have hla : (if x.c9 < a4 then a4 else x.c9) = la2 := Option.some.inj hla_
     clear hf_ hla_
     have hcn := Option.some.inj hcn_
     have hby := Option.some.inj hby_
     obtain ⟨y0, y1, y2, y3, y4, y5, y6, y7, y8, y9, y10, y11⟩ := b
     have hb2 : (if s0_0.b < y0 then y0 else s0_0.b) = b2 := Option.some.inj hb2_
     have AR := Aside0.mk AR_
     clear hcn_ hby_ hb2_ AR_
     simp only [Option.some.injEq, Prod.mk.injEq] at h
     obtain ⟨rfl, rfl⟩ := h
     go_enter Try.func10, Try.ntmps10
     go_upto_region 7 with (first | (go_at_call 20; (with_reducible refine (probe_good.calls a2 a3 _ _ A1.out).mono ?_); rintro e w5 ⟨rfl, hd⟩; have hb5 : Below w.heap.size w w5 := (by obtain ⟨n, rfl⟩ := hd.out; exact pw_below_drewN (Below.refl _ _) n); have n0_ := Aside0.mk (PF.below HP.out hb5); clear HP hd hb5; have HP := n0_; clear n0_; have hg_0 : w5.cell? ⟨g, 0, none⟩ = some (.map (some m)) := (blk_cell HP.out.1.blk 0).trans rfl; have hg_1 : w5.cell? ⟨g, 1, none⟩ = some (.int .i64 s0_0.n) := (blk_cell HP.out.1.blk 1).trans rfl; have hg_2 : w5.cell? ⟨g, 2, none⟩ = some (.int .i64 s0_0.o) := (blk_cell HP.out.1.blk 2).trans rfl; have hg_3 : w5.cell? ⟨g, 3, none⟩ = some (.int .i64 s0_0.b) := (blk_cell HP.out.1.blk 3).trans rfl; have hfg_0 := blk_frozen HP.out.1.blk 0; have hfg_1 := blk_frozen HP.out.1.blk 1; have hfg_2 := blk_frozen HP.out.1.blk 2; have hfg_3 := blk_frozen HP.out.1.blk 3; have hc_0 := (blk_cell HP.out.1.cb 0).trans rfl; have hc_1 := (blk_cell HP.out.1.cb 1).trans rfl; have hc_2 := (blk_cell HP.out.1.cb 2).trans rfl; have hc_3 := (blk_cell HP.out.1.cb 3).trans rfl; have hc_4 := (blk_cell HP.out.1.cb 4).trans rfl; have hc_5 := (blk_cell HP.out.1.cb 5).trans rfl; have hc_6 := (blk_cell HP.out.1.cb 6).trans rfl; have hc_7 := (blk_cell HP.out.1.cb 7).trans rfl; have hc_8 := (blk_cell HP.out.1.cb 8).trans rfl; have hc_9 := (blk_cell HP.out.1.cb 9).trans rfl; have hc_10 := (blk_cell HP.out.1.cb 10).trans rfl; have hfc_0 := blk_frozen HP.out.1.cb 0; have hfc_1 := blk_frozen HP.out.1.cb 1; have hfc_2 := blk_frozen HP.out.1.cb 2; have hfc_3 := blk_frozen HP.out.1.cb 3; have hfc_4 := blk_frozen HP.out.1.cb 4; have hfc_5 := blk_frozen HP.out.1.cb 5; have hfc_6 := blk_frozen HP.out.1.cb 6; have hfc_7 := blk_frozen HP.out.1.cb 7; have hfc_8 := blk_frozen HP.out.1.cb 8; have hfc_9 := blk_frozen HP.out.1.cb 9; have hfc_10 := blk_frozen HP.out.1.cb 10; have hlk := look_in Try.underlying40 Try.underlying3 HP.out.1.mp HF.out true))
     have hx0_7 := blk_frozen (PF.setc HP.out 6 (.int .i64 a3)).1.cb 7
     have hy0_7 := (blk_cell (PF.setc HP.out 6 (.int .i64 a3)).1.cb 7).trans rfl
     go_upto_region 9 with (first | fail)
     clear hx0_7 hy0_7
     have n0_ : Aside0 (PF w0 w ((w5.setCell ⟨c, 6, none⟩ (.int .i64 a3)).setCell ⟨c, 7, none⟩ (.int .i64 a2)) g m s0_0.n s0_0.o s0_0.b (keysOf (L1 ++ (a1, c, x) :: L2)) (rowsOf L1 ++ (c, #[.int .i64 x.c0, .int .i64 x.c1, .int .i64 x.c2, .int .i64 x.c3, .int .i64 x.c4, .int .i64 x.c5, .int .i64 a3, .int .i64 a2, .int .i64 x.c8, .int .i64 x.c9, .int .i64 x.c10]) :: rowsOf L2)) := ⟨(PF.setc (PF.setc HP.out 6 (.int .i64 a3)) 7 (.int .i64 a2))⟩
     clear HP
     clear hg_0 hfg_0 hg_1 hfg_1 hg_2 hfg_2 hg_3 hfg_3
     clear hc_0 hfc_0 hc_1 hfc_1 hc_2 hfc_2 hc_3 hfc_3 hc_4 hfc_4 hc_5 hfc_5 hc_6 hfc_6 hc_7 hfc_7 hc_8 hfc_8 hc_9 hfc_9 hc_10 hfc_10
     generalize ((w5.setCell ⟨c, 6, none⟩ (.int .i64 a3)).setCell ⟨c, 7, none⟩ (.int .i64 a2)) = w6 at n0_ ⊢
     have HP := n0_
     clear n0_
     have hg_0 : w6.cell? ⟨g, 0, none⟩ = some (.map (some m)) := (blk_cell HP.out.1.blk 0).trans rfl
     have hg_1 : w6.cell? ⟨g, 1, none⟩ = some (.int .i64 s0_0.n) := (blk_cell HP.out.1.blk 1).trans rfl
     have hg_2 : w6.cell? ⟨g, 2, none⟩ = some (.int .i64 s0_0.o) := (blk_cell HP.out.1.blk 2).trans rfl
     have hg_3 : w6.cell? ⟨g, 3, none⟩ = some (.int .i64 s0_0.b) := (blk_cell HP.out.1.blk 3).trans rfl
     have hfg_0 := blk_frozen HP.out.1.blk 0
     have hfg_1 := blk_frozen HP.out.1.blk 1
     have hfg_2 := blk_frozen HP.out.1.blk 2
     have hfg_3 := blk_frozen HP.out.1.blk 3
     have hc_0 := (blk_cell HP.out.1.cb 0).trans rfl
     have hc_1 := (blk_cell HP.out.1.cb 1).trans rfl
     have hc_2 := (blk_cell HP.out.1.cb 2).trans rfl
     have hc_3 := (blk_cell HP.out.1.cb 3).trans rfl
     have hc_4 := (blk_cell HP.out.1.cb 4).trans rfl
     have hc_5 := (blk_cell HP.out.1.cb 5).trans rfl
     have hc_6 := (blk_cell HP.out.1.cb 6).trans rfl
     have hc_7 := (blk_cell HP.out.1.cb 7).trans rfl
     have hc_8 := (blk_cell HP.out.1.cb 8).trans rfl
     have hc_9 := (blk_cell HP.out.1.cb 9).trans rfl
     have hc_10 := (blk_cell HP.out.1.cb 10).trans rfl
     have hfc_0 := blk_frozen HP.out.1.cb 0
     have hfc_1 := blk_frozen HP.out.1.cb 1
     have hfc_2 := blk_frozen HP.out.1.cb 2
     have hfc_3 := blk_frozen HP.out.1.cb 3
     have hfc_4 := blk_frozen HP.out.1.cb 4
     have hfc_5 := blk_frozen HP.out.1.cb 5
     have hfc_6 := blk_frozen HP.out.1.cb 6
     have hfc_7 := blk_frozen HP.out.1.cb 7
     have hfc_8 := blk_frozen HP.out.1.cb 8
     have hfc_9 := blk_frozen HP.out.1.cb 9
     have hfc_10 := blk_frozen HP.out.1.cb 10
     go_upto_region 11 with (first | fail)
     go_upto_region 13 with (first | fail)
     clear hg_0 hfg_0 hg_1 hfg_1 hg_2 hfg_2 hg_3 hfg_3
     clear hc_0 hfc_0 hc_1 hfc_1 hc_2 hfc_2 hc_3 hfc_3 hc_4 hfc_4 hc_5 hfc_5 hc_6 hfc_6 hc_7 hfc_7 hc_8 hfc_8 hc_9 hfc_9 hc_10 hfc_10
     have n0_ := Aside0.mk (PF.drew HP.out)
     clear HP
     have HP := n0_
     clear n0_
     refine start_ (n := 20) (S := fun w' => w'.cell? ⟨c, 5, none⟩ = some (.int .i64 x.c5) ∧ w'.cell? ⟨c, 9, none⟩ = some (.int .i64 x.c9)) (ds := [16, 19]) #[false, false, false, false, false, false, false, false, false, false, false, false, false, false, false, false, false, false, false, false] (by kernel_rfl) rfl rfl ⟨(blk_cell HP.out.1.cb 5).trans rfl, (blk_cell HP.out.1.cb 9).trans rfl⟩ (fun hHeld => ?_); refine with_tabW probe_Probe_Got.tab13 probe_Probe_Got.bits13 (fun HT_ HW_ => ?_)
     generalize World.drew w6 = w9 at HP hHeld ⊢
     refine pure_ (i := 0) (N := some 98) (v := ?_) (a' := ?_) #[true, false, false, false, false, false, false, false, false, false, false, false, false, false, false, false, false, false, false, false] rfl rfl (any_of HT_.out (by kernel_rfl)) (fun _ _ _ h => h) (Or.inl ⟨by rfl, ?_⟩) ?_ ?_
     rotate_left
     ·intro w'
      go_simp
      with_reducible rfl
     rotate_left
     ·simp only [Act.put, List.setIfInBounds_toArray, List.set_cons_zero, List.set_cons_succ, i64_w, i32_w]
      rfl
     refine pure_ (i := 1) (N := some 99) (v := ?_) (a' := ?_) #[true, true, false, false, false, false, false, false, false, false, false, false, false, false, false, false, false, false, false, false] rfl rfl (any_of HT_.out (by kernel_rfl)) (fun _ _ _ h => h) (Or.inl ⟨by rfl, ?_⟩) ?_ ?_
     rotate_left
     ·intro w'
      go_simp
      with_reducible rfl
     rotate_left
     ·simp only [Act.put, List.setIfInBounds_toArray, List.set_cons_zero, List.set_cons_succ, i64_w, i32_w]
      rfl
     refine pure_ (i := 2) (N := some 100) (v := ?_) (a' := ?_) #[true, true, true, false, false, false, false, false, false, false, false, false, false, false, false, false, false, false, false, false] rfl rfl (any_of HT_.out (by kernel_rfl)) (fun _ _ _ h => h) (Or.inl ⟨by rfl, ?_⟩) ?_ ?_
     rotate_left
     ·intro w'
      go_simp
      with_reducible rfl
     rotate_left
     ·simp only [Act.put, List.setIfInBounds_toArray, List.set_cons_zero, List.set_cons_succ, i64_w, i32_w]
      rfl
     refine pure_ (i := 3) (N := some 101) (v := ?_) (a' := ?_) #[true, true, true, true, false, false, false, false, false, false, false, false, false, false, false, false, false, false, false, false] rfl rfl (any_of HT_.out (by kernel_rfl)) (fun _ _ _ h => h) (Or.inl ⟨by rfl, ?_⟩) ?_ ?_
     rotate_left
     ·intro w'
      go_simp
      with_reducible rfl
     rotate_left
     ·simp only [Act.put, List.setIfInBounds_toArray, List.set_cons_zero, List.set_cons_succ, i64_w, i32_w]
      rfl
     refine pure_ (i := 4) (N := some 102) (v := ?_) (a' := ?_) #[true, true, true, true, true, false, false, false, false, false, false, false, false, false, false, false, false, false, false, false] rfl rfl (any_of HT_.out (by kernel_rfl)) (fun _ _ _ h => h) (Or.inl ⟨by rfl, ?_⟩) ?_ ?_
     rotate_left
     ·intro w'
      go_simp
      with_reducible rfl
     rotate_left
     ·simp only [Act.put, List.setIfInBounds_toArray, List.set_cons_zero, List.set_cons_succ, i64_w, i32_w]
      rfl
     refine take_ (i := 5) (N := some 103) (v := ?_) (a' := ?_) #[true, true, true, true, true, true, false, false, false, false, false, false, false, false, false, false, false, false, false, false] rfl rfl (take_ofW HT_.out HW_.out (by kernel_rfl)) (fun _ _ _ h => h) (Or.inl ⟨by rfl, ?_⟩) hHeld ?_ ?_
     rotate_left
     ·rintro w' ⟨s0, s1⟩
      go_simp
      with_reducible rfl
     rotate_left
     ·simp only [Act.put, List.setIfInBounds_toArray, List.set_cons_zero, List.set_cons_succ, i64_w, i32_w]
      rfl
     refine pure_ (i := 6) (N := some 104) (v := ?_) (a' := ?_) #[true, true, true, true, true, true, true, false, false, false, false, false, false, false, false, false, false, false, false, false] rfl rfl (any_of HT_.out (by kernel_rfl)) (fun _ _ _ h => h) (Or.inl ⟨by rfl, ?_⟩) ?_ ?_
     rotate_left
     ·intro w'
      go_simp
      with_reducible rfl
     rotate_left
     ·simp only [Act.put, List.setIfInBounds_toArray, List.set_cons_zero, List.set_cons_succ, i64_w, i32_w]
      rfl
     refine pure_ (i := 7) (N := some 105) (v := ?_) (a' := ?_) #[true, true, true, true, true, true, true, true, false, false, false, false, false, false, false, false, false, false, false, false] rfl rfl (any_of HT_.out (by kernel_rfl)) (fun _ _ _ h => h) (Or.inl ⟨by rfl, ?_⟩) ?_ ?_
     rotate_left
     ·intro w'
      go_simp
      with_reducible rfl
     rotate_left
     ·simp only [Act.put, List.setIfInBounds_toArray, List.set_cons_zero, List.set_cons_succ, i64_w, i32_w]
      rfl
     refine pure_ (i := 8) (N := some 106) (v := ?_) (a' := ?_) #[true, true, true, true, true, true, true, true, true, false, false, false, false, false, false, false, false, false, false, false] rfl rfl (any_of HT_.out (by kernel_rfl)) (fun _ _ _ h => h) (Or.inl ⟨by rfl, ?_⟩) ?_ ?_
     rotate_left
     ·intro w'
      go_simp
      with_reducible rfl
     rotate_left
     ·simp only [Act.put, List.setIfInBounds_toArray, List.set_cons_zero, List.set_cons_succ, i64_w, i32_w]
      rfl
     refine pure_ (i := 9) (N := some 107) (v := ?_) (a' := ?_) #[true, true, true, true, true, true, true, true, true, true, false, false, false, false, false, false, false, false, false, false] rfl rfl (any_of HT_.out (by kernel_rfl)) (fun _ _ _ h => h) (Or.inl ⟨by rfl, ?_⟩) ?_ ?_
     rotate_left
     ·intro w'
      go_simp
      with_reducible rfl
     rotate_left
     ·simp only [Act.put, List.setIfInBounds_toArray, List.set_cons_zero, List.set_cons_succ, i64_w, i32_w]
      rfl
     refine pure_ (i := 10) (N := some 108) (v := ?_) (a' := ?_) #[true, true, true, true, true, true, true, true, true, true, true, false, false, false, false, false, false, false, false, false] rfl rfl (any_of HT_.out (by kernel_rfl)) (fun _ _ _ h => h) (Or.inl ⟨by rfl, ?_⟩) ?_ ?_
     rotate_left
     ·intro w'
      go_simp
      with_reducible rfl
     rotate_left
     ·simp only [Act.put, List.setIfInBounds_toArray, List.set_cons_zero, List.set_cons_succ, i64_w, i32_w]
      rfl
     refine take_ (i := 11) (N := some 109) (v := ?_) (a' := ?_) #[true, true, true, true, true, true, true, true, true, true, true, true, false, false, false, false, false, false, false, false] rfl rfl (take_ofW HT_.out HW_.out (by kernel_rfl)) (fun _ _ _ h => h) (Or.inl ⟨by rfl, ?_⟩) hHeld ?_ ?_
     rotate_left
     ·rintro w' ⟨s0, s1⟩
      go_simp
      with_reducible rfl
     rotate_left
     ·simp only [Act.put, List.setIfInBounds_toArray, List.set_cons_zero, List.set_cons_succ, i64_w, i32_w]
      rfl
     refine pure_ (i := 12) (N := some 110) (v := ?_) (a' := ?_) #[true, true, true, true, true, true, true, true, true, true, true, true, true, false, false, false, false, false, false, false] rfl rfl (any_of HT_.out (by kernel_rfl)) (fun _ _ _ h => h) (Or.inl ⟨by rfl, ?_⟩) ?_ ?_
     rotate_left
     ·intro w'
      go_simp
      with_reducible rfl
     rotate_left
     ·simp only [Act.put, List.setIfInBounds_toArray, List.set_cons_zero, List.set_cons_succ, i64_w, i32_w]
      rfl
     refine pure_ (i := 13) (N := some 111) (v := ?_) (a' := ?_) #[true, true, true, true, true, true, true, true, true, true, true, true, true, true, false, false, false, false, false, false] rfl rfl (any_of HT_.out (by kernel_rfl)) (fun _ _ _ h => h) (Or.inl ⟨by rfl, ?_⟩) ?_ ?_
     rotate_left
     ·intro w'
      go_simp
      with_reducible rfl
     rotate_left
     ·simp only [Act.put, List.setIfInBounds_toArray, List.set_cons_zero, List.set_cons_succ, i64_w, i32_w]
      rfl
     refine pure_ (i := 14) (N := some 112) (v := ?_) (a' := ?_) #[true, true, true, true, true, true, true, true, true, true, true, true, true, true, true, false, false, false, false, false] rfl rfl (any_of HT_.out (by kernel_rfl)) (fun _ _ _ h => h) (Or.inl ⟨by rfl, ?_⟩) ?_ ?_
     rotate_left
     ·intro w'
      go_simp
      with_reducible rfl
     rotate_left
     ·simp only [Act.put, List.setIfInBounds_toArray, List.set_cons_zero, List.set_cons_succ, i64_w, i32_w]
      rfl
     refine pure_ (i := 15) (N := some 113) (v := ?_) (a' := ?_) #[true, true, true, true, true, true, true, true, true, true, true, true, true, true, true, true, false, false, false, false] rfl rfl (any_of HT_.out (by kernel_rfl)) (fun _ _ _ h => h) (Or.inl ⟨by rfl, ?_⟩) ?_ ?_
     rotate_left
     ·intro w'
      go_simp
      with_reducible rfl
     rotate_left
     ·simp only [Act.put, List.setIfInBounds_toArray, List.set_cons_zero, List.set_cons_succ, i64_w, i32_w]
      rfl
     refine last_ (i := 16) (N := none) #[true, true, true, true, true, true, true, true, true, true, true, true, true, true, true, true, true, false, false, false] rfl rfl (one_of HT_.out (by kernel_rfl)) (by decide) (fun K hK => ?_)
     have hs_ : w9.cell? ⟨c, 5, none⟩ = some (.int .i64 x.c5) := (blk_cell HP.out.1.cb 5).trans rfl
     have hfs_ := blk_frozen HP.out.1.cb 5
     refine skip_ (w1 := ?_) (by rfl) rfl ?_ ?_
     rotate_left
     ·go_simp
      rfl
     have n0_ : Aside0 (PF w0 w (w9.setCell ⟨c, 5, none⟩ (.int .i64 fr2)) g m s0_0.n s0_0.o s0_0.b (keysOf (L1 ++ (a1, c, x) :: L2)) (rowsOf L1 ++ (c, #[.int .i64 x.c0, .int .i64 x.c1, .int .i64 x.c2, .int .i64 x.c3, .int .i64 x.c4, .int .i64 fr2, .int .i64 a3, .int .i64 a2, .int .i64 x.c8, .int .i64 x.c9, .int .i64 x.c10]) :: rowsOf L2)) := ⟨HP.out.setc 5 _⟩
     clear HP hs_ hfs_
     have HP := n0_
     clear n0_
     generalize (w9.setCell ⟨c, 5, none⟩ (.int .i64 fr2)) = w10 at HP ⊢
     refine hK.out _ _ ?_
     clear hK K
     refine pure_ (i := 17) (N := some 114) (v := ?_) (a' := ?_) #[true, true, true, true, true, true, true, true, true, true, true, true, true, true, true, true, true, true, false, false] rfl rfl (any_of HT_.out (by kernel_rfl)) (fun _ _ _ h => h) (Or.inl ⟨by rfl, ?_⟩) ?_ ?_
     rotate_left
     ·intro w'
      go_simp
      with_reducible rfl
     rotate_left
     ·simp only [Act.put, List.setIfInBounds_toArray, List.set_cons_zero, List.set_cons_succ, i64_w, i32_w]
      rfl
     refine pure_ (i := 18) (N := some 115) (v := ?_) (a' := ?_) #[true, true, true, true, true, true, true, true, true, true, true, true, true, true, true, true, true, true, true, false] rfl rfl (any_of HT_.out (by kernel_rfl)) (fun _ _ _ h => h) (Or.inl ⟨by rfl, ?_⟩) ?_ ?_
     rotate_left
     ·intro w'
      go_simp
      with_reducible rfl
     rotate_left
     ·simp only [Act.put, List.setIfInBounds_toArray, List.set_cons_zero, List.set_cons_succ, i64_w, i32_w]
      rfl
     refine last_ (i := 19) (N := none) #[true, true, true, true, true, true, true, true, true, true, true, true, true, true, true, true, true, true, true, true] rfl rfl (one_of HT_.out (by kernel_rfl)) (by decide) (fun K hK => ?_)
     have hs_ : w10.cell? ⟨c, 9, none⟩ = some (.int .i64 x.c9) := (blk_cell HP.out.1.cb 9).trans rfl
     have hfs_ := blk_frozen HP.out.1.cb 9
     refine skip_ (w1 := ?_) (by rfl) rfl ?_ ?_
     rotate_left
     ·go_simp
      rfl
     have n0_ : Aside0 (PF w0 w (w10.setCell ⟨c, 9, none⟩ (.int .i64 la2)) g m s0_0.n s0_0.o s0_0.b (keysOf (L1 ++ (a1, c, x) :: L2)) (rowsOf L1 ++ (c, #[.int .i64 x.c0, .int .i64 x.c1, .int .i64 x.c2, .int .i64 x.c3, .int .i64 x.c4, .int .i64 fr2, .int .i64 a3, .int .i64 a2, .int .i64 x.c8, .int .i64 la2, .int .i64 x.c10]) :: rowsOf L2)) := ⟨HP.out.setc 9 _⟩
     clear HP hs_ hfs_
     have HP := n0_
     clear n0_
     generalize (w10.setCell ⟨c, 9, none⟩ (.int .i64 la2)) = w11 at HP ⊢
     refine hK.out _ _ ?_
     clear hK K
     refine done_ (done_of HT_.out (by kernel_rfl)) ?_
     clear hHeld HT_ HW_
     have hg_0 : w11.cell? ⟨g, 0, none⟩ = some (.map (some m)) := (blk_cell HP.out.1.blk 0).trans rfl
     have hg_1 : w11.cell? ⟨g, 1, none⟩ = some (.int .i64 s0_0.n) := (blk_cell HP.out.1.blk 1).trans rfl
     have hg_2 : w11.cell? ⟨g, 2, none⟩ = some (.int .i64 s0_0.o) := (blk_cell HP.out.1.blk 2).trans rfl
     have hg_3 : w11.cell? ⟨g, 3, none⟩ = some (.int .i64 s0_0.b) := (blk_cell HP.out.1.blk 3).trans rfl
     have hfg_0 := blk_frozen HP.out.1.blk 0
     have hfg_1 := blk_frozen HP.out.1.blk 1
     have hfg_2 := blk_frozen HP.out.1.blk 2
     have hfg_3 := blk_frozen HP.out.1.blk 3
     have hc_0 := (blk_cell HP.out.1.cb 0).trans rfl
     have hc_1 := (blk_cell HP.out.1.cb 1).trans rfl
     have hc_2 := (blk_cell HP.out.1.cb 2).trans rfl
     have hc_3 := (blk_cell HP.out.1.cb 3).trans rfl
     have hc_4 := (blk_cell HP.out.1.cb 4).trans rfl
     have hc_5 := (blk_cell HP.out.1.cb 5).trans rfl
     have hc_6 := (blk_cell HP.out.1.cb 6).trans rfl
     have hc_7 := (blk_cell HP.out.1.cb 7).trans rfl
     have hc_8 := (blk_cell HP.out.1.cb 8).trans rfl
     have hc_9 := (blk_cell HP.out.1.cb 9).trans rfl
     have hc_10 := (blk_cell HP.out.1.cb 10).trans rfl
     have hfc_0 := blk_frozen HP.out.1.cb 0
     have hfc_1 := blk_frozen HP.out.1.cb 1
     have hfc_2 := blk_frozen HP.out.1.cb 2
     have hfc_3 := blk_frozen HP.out.1.cb 3
     have hfc_4 := blk_frozen HP.out.1.cb 4
     have hfc_5 := blk_frozen HP.out.1.cb 5
     have hfc_6 := blk_frozen HP.out.1.cb 6
     have hfc_7 := blk_frozen HP.out.1.cb 7
     have hfc_8 := blk_frozen HP.out.1.cb 8
     have hfc_9 := blk_frozen HP.out.1.cb 9
     have hfc_10 := blk_frozen HP.out.1.cb 10
     have hx0_4 := blk_frozen (PF.setc HP.out 3 (.int .i64 cn)).1.cb 4
     have hy0_4 := (blk_cell (PF.setc HP.out 3 (.int .i64 cn)).1.cb 4).trans rfl
     go_upto_region 16 with (first | fail)
     clear hx0_4 hy0_4
     have n0_ : Aside0 (PF w0 w ((w11.setCell ⟨c, 3, none⟩ (.int .i64 cn)).setCell ⟨c, 4, none⟩ (.int .i64 by_)) g m s0_0.n s0_0.o s0_0.b (keysOf (L1 ++ (a1, c, x) :: L2)) (rowsOf L1 ++ (c, #[.int .i64 x.c0, .int .i64 x.c1, .int .i64 x.c2, .int .i64 cn, .int .i64 by_, .int .i64 fr2, .int .i64 a3, .int .i64 a2, .int .i64 x.c8, .int .i64 la2, .int .i64 x.c10]) :: rowsOf L2)) := ⟨(PF.setc (PF.setc HP.out 3 (.int .i64 cn)) 4 (.int .i64 by_))⟩
     clear HP
     clear hg_0 hfg_0 hg_1 hfg_1 hg_2 hfg_2 hg_3 hfg_3
     clear hc_0 hfc_0 hc_1 hfc_1 hc_2 hfc_2 hc_3 hfc_3 hc_4 hfc_4 hc_5 hfc_5 hc_6 hfc_6 hc_7 hfc_7 hc_8 hfc_8 hc_9 hfc_9 hc_10 hfc_10
     generalize ((w11.setCell ⟨c, 3, none⟩ (.int .i64 cn)).setCell ⟨c, 4, none⟩ (.int .i64 by_)) = w12 at n0_ ⊢
     have HP := n0_
     clear n0_
     have hg_0 : w12.cell? ⟨g, 0, none⟩ = some (.map (some m)) := (blk_cell HP.out.1.blk 0).trans rfl
     have hg_1 : w12.cell? ⟨g, 1, none⟩ = some (.int .i64 s0_0.n) := (blk_cell HP.out.1.blk 1).trans rfl
     have hg_2 : w12.cell? ⟨g, 2, none⟩ = some (.int .i64 s0_0.o) := (blk_cell HP.out.1.blk 2).trans rfl
     have hg_3 : w12.cell? ⟨g, 3, none⟩ = some (.int .i64 s0_0.b) := (blk_cell HP.out.1.blk 3).trans rfl
     have hfg_0 := blk_frozen HP.out.1.blk 0
     have hfg_1 := blk_frozen HP.out.1.blk 1
     have hfg_2 := blk_frozen HP.out.1.blk 2
     have hfg_3 := blk_frozen HP.out.1.blk 3
     go_wp2_with (first | ((with_reducible refine gate_callee (f := 22) rfl ?_); refine goesL_ (some 132) rfl rfl Try.func22 (by kernel_rfl) rfl #[.pointer (some ⟨c, 0, none⟩)] rfl (by (try simp only [List.map_toArray, List.map_cons, List.map_nil]); first | done | rfl) ?_; (refine (probe_cluster_result.calls k c (x.c0) (x.c1) (x.c2) (cn) (by_) (fr2) (a3) (a2) (x.c8) (la2) (x.c10) y0 y1 y2 y3 y4 y5 y6 y7 y8 y9 y10 y11 w0 _ ⟨HP.out.1.cb, HP.out.1.cge⟩ HP.out.2.1 AR.out).mono ?_); rintro e w13 ⟨rfl, hi, hb, hk⟩; refine ⟨_, rfl, ?_⟩; have n0_ := Aside0.mk (PF.res HP.out hi hb hk); clear HP; have HP := n0_; clear n0_; clear hi hb hk; clear hg_0 hfg_0 hg_1 hfg_1 hg_2 hfg_2 hg_3 hfg_3; have hg_0 : w13.cell? ⟨g, 0, none⟩ = some (.map (some m)) := (blk_cell HP.out.1.blk 0).trans rfl; have hg_1 : w13.cell? ⟨g, 1, none⟩ = some (.int .i64 s0_0.n) := (blk_cell HP.out.1.blk 1).trans rfl; have hg_2 : w13.cell? ⟨g, 2, none⟩ = some (.int .i64 s0_0.o) := (blk_cell HP.out.1.blk 2).trans rfl; have hg_3 : w13.cell? ⟨g, 3, none⟩ = some (.int .i64 s0_0.b) := (blk_cell HP.out.1.blk 3).trans rfl; have hfg_0 := blk_frozen HP.out.1.blk 0; have hfg_1 := blk_frozen HP.out.1.blk 1; have hfg_2 := blk_frozen HP.out.1.blk 2; have hfg_3 := blk_frozen HP.out.1.blk 3))
     have hF := HP.out.setg (f0' := s0_0.n) (f1' := s0_0.o) (f2' := b2) 3 (.int .i64 b2) rfl
     go_ret
     exact ⟨rfl, hL ▸ hF.1.back (y := ⟨y1, y2, y3, y4, y5, y6, y7, y8, y9, y10, y11⟩) hn rfl, hF.2.1, hF.2.2⟩
   ·rw [if_neg c8] at h
    by_cases c9 : a4 < x.c8
    ·rw [if_pos c9] at h
     have k7b : (x.c3 == 0) = false := beq_eq_false_iff_ne.mpr c7
     have k8b : decide (x.c6 ≤ a3) = false := decide_eq_false c8
     have k9b : decide (a4 < x.c8) = true := decide_eq_true c9
     have C7 := Aside0.mk c7
     clear c7 c8 c9
     simp only [gotu, Option.bind_eq_some_iff] at h
     obtain ⟨fr2, hf_, la2, hla_, cn, hcn_, by_, hby_, b, AR_, b2, hb2_, h⟩ := h
     have hfr : (if a3 < x.c5 then a3 else x.c5) = fr2 := Option.some.inj hf_
     have hla : (if x.c9 < a4 then a4 else x.c9) = la2 := Option.some.inj hla_
     clear hf_ hla_
     have hcn := Option.some.inj hcn_
     have hby := Option.some.inj hby_
     obtain ⟨y0, y1, y2, y3, y4, y5, y6, y7, y8, y9, y10, y11⟩ := b
     have hb2 : (if s0_0.b < y0 then y0 else s0_0.b) = b2 := Option.some.inj hb2_
     have AR := Aside0.mk AR_
     clear hcn_ hby_ hb2_ AR_
     simp only [Option.some.injEq, Prod.mk.injEq] at h
     obtain ⟨rfl, rfl⟩ := h
     go_enter Try.func10, Try.ntmps10
     go_upto_region 7 with (first | (go_at_call 20; (with_reducible refine (probe_good.calls a2 a3 _ _ A1.out).mono ?_); rintro e w5 ⟨rfl, hd⟩; have hb5 : Below w.heap.size w w5 := (by obtain ⟨n, rfl⟩ := hd.out; exact pw_below_drewN (Below.refl _ _) n); have n0_ := Aside0.mk (PF.below HP.out hb5); clear HP hd hb5; have HP := n0_; clear n0_; have hg_0 : w5.cell? ⟨g, 0, none⟩ = some (.map (some m)) := (blk_cell HP.out.1.blk 0).trans rfl; have hg_1 : w5.cell? ⟨g, 1, none⟩ = some (.int .i64 s0_0.n) := (blk_cell HP.out.1.blk 1).trans rfl; have hg_2 : w5.cell? ⟨g, 2, none⟩ = some (.int .i64 s0_0.o) := (blk_cell HP.out.1.blk 2).trans rfl; have hg_3 : w5.cell? ⟨g, 3, none⟩ = some (.int .i64 s0_0.b) := (blk_cell HP.out.1.blk 3).trans rfl; have hfg_0 := blk_frozen HP.out.1.blk 0; have hfg_1 := blk_frozen HP.out.1.blk 1; have hfg_2 := blk_frozen HP.out.1.blk 2; have hfg_3 := blk_frozen HP.out.1.blk 3; have hc_0 := (blk_cell HP.out.1.cb 0).trans rfl; have hc_1 := (blk_cell HP.out.1.cb 1).trans rfl; have hc_2 := (blk_cell HP.out.1.cb 2).trans rfl; have hc_3 := (blk_cell HP.out.1.cb 3).trans rfl; have hc_4 := (blk_cell HP.out.1.cb 4).trans rfl; have hc_5 := (blk_cell HP.out.1.cb 5).trans rfl; have hc_6 := (blk_cell HP.out.1.cb 6).trans rfl; have hc_7 := (blk_cell HP.out.1.cb 7).trans rfl; have hc_8 := (blk_cell HP.out.1.cb 8).trans rfl; have hc_9 := (blk_cell HP.out.1.cb 9).trans rfl; have hc_10 := (blk_cell HP.out.1.cb 10).trans rfl; have hfc_0 := blk_frozen HP.out.1.cb 0; have hfc_1 := blk_frozen HP.out.1.cb 1; have hfc_2 := blk_frozen HP.out.1.cb 2; have hfc_3 := blk_frozen HP.out.1.cb 3; have hfc_4 := blk_frozen HP.out.1.cb 4; have hfc_5 := blk_frozen HP.out.1.cb 5; have hfc_6 := blk_frozen HP.out.1.cb 6; have hfc_7 := blk_frozen HP.out.1.cb 7; have hfc_8 := blk_frozen HP.out.1.cb 8; have hfc_9 := blk_frozen HP.out.1.cb 9; have hfc_10 := blk_frozen HP.out.1.cb 10; have hlk := look_in Try.underlying40 Try.underlying3 HP.out.1.mp HF.out true))
     go_upto_region 9 with (first | fail)
     have hx0_10 := blk_frozen (PF.setc HP.out 8 (.int .i64 a4)).1.cb 10
     have hy0_10 := (blk_cell (PF.setc HP.out 8 (.int .i64 a4)).1.cb 10).trans rfl
     go_upto_region 11 with (first | fail)
     clear hx0_10 hy0_10
     have n0_ : Aside0 (PF w0 w ((w5.setCell ⟨c, 8, none⟩ (.int .i64 a4)).setCell ⟨c, 10, none⟩ (.int .i64 a2)) g m s0_0.n s0_0.o s0_0.b (keysOf (L1 ++ (a1, c, x) :: L2)) (rowsOf L1 ++ (c, #[.int .i64 x.c0, .int .i64 x.c1, .int .i64 x.c2, .int .i64 x.c3, .int .i64 x.c4, .int .i64 x.c5, .int .i64 x.c6, .int .i64 x.c7, .int .i64 a4, .int .i64 x.c9, .int .i64 a2]) :: rowsOf L2)) := ⟨(PF.setc (PF.setc HP.out 8 (.int .i64 a4)) 10 (.int .i64 a2))⟩
     clear HP
     clear hg_0 hfg_0 hg_1 hfg_1 hg_2 hfg_2 hg_3 hfg_3
     clear hc_0 hfc_0 hc_1 hfc_1 hc_2 hfc_2 hc_3 hfc_3 hc_4 hfc_4 hc_5 hfc_5 hc_6 hfc_6 hc_7 hfc_7 hc_8 hfc_8 hc_9 hfc_9 hc_10 hfc_10
     generalize ((w5.setCell ⟨c, 8, none⟩ (.int .i64 a4)).setCell ⟨c, 10, none⟩ (.int .i64 a2)) = w7 at n0_ ⊢
     have HP := n0_
     clear n0_
     have hg_0 : w7.cell? ⟨g, 0, none⟩ = some (.map (some m)) := (blk_cell HP.out.1.blk 0).trans rfl
     have hg_1 : w7.cell? ⟨g, 1, none⟩ = some (.int .i64 s0_0.n) := (blk_cell HP.out.1.blk 1).trans rfl
     have hg_2 : w7.cell? ⟨g, 2, none⟩ = some (.int .i64 s0_0.o) := (blk_cell HP.out.1.blk 2).trans rfl
     have hg_3 : w7.cell? ⟨g, 3, none⟩ = some (.int .i64 s0_0.b) := (blk_cell HP.out.1.blk 3).trans rfl
     have hfg_0 := blk_frozen HP.out.1.blk 0
     have hfg_1 := blk_frozen HP.out.1.blk 1
     have hfg_2 := blk_frozen HP.out.1.blk 2
     have hfg_3 := blk_frozen HP.out.1.blk 3
     have hc_0 := (blk_cell HP.out.1.cb 0).trans rfl
     have hc_1 := (blk_cell HP.out.1.cb 1).trans rfl
     have hc_2 := (blk_cell HP.out.1.cb 2).trans rfl
     have hc_3 := (blk_cell HP.out.1.cb 3).trans rfl
     have hc_4 := (blk_cell HP.out.1.cb 4).trans rfl
     have hc_5 := (blk_cell HP.out.1.cb 5).trans rfl
     have hc_6 := (blk_cell HP.out.1.cb 6).trans rfl
     have hc_7 := (blk_cell HP.out.1.cb 7).trans rfl
     have hc_8 := (blk_cell HP.out.1.cb 8).trans rfl
     have hc_9 := (blk_cell HP.out.1.cb 9).trans rfl
     have hc_10 := (blk_cell HP.out.1.cb 10).trans rfl
     have hfc_0 := blk_frozen HP.out.1.cb 0
     have hfc_1 := blk_frozen HP.out.1.cb 1
     have hfc_2 := blk_frozen HP.out.1.cb 2
     have hfc_3 := blk_frozen HP.out.1.cb 3
     have hfc_4 := blk_frozen HP.out.1.cb 4
     have hfc_5 := blk_frozen HP.out.1.cb 5
     have hfc_6 := blk_frozen HP.out.1.cb 6
     have hfc_7 := blk_frozen HP.out.1.cb 7
     have hfc_8 := blk_frozen HP.out.1.cb 8
     have hfc_9 := blk_frozen HP.out.1.cb 9
     have hfc_10 := blk_frozen HP.out.1.cb 10
     go_upto_region 13 with (first | fail)
     clear hg_0 hfg_0 hg_1 hfg_1 hg_2 hfg_2 hg_3 hfg_3
     clear hc_0 hfc_0 hc_1 hfc_1 hc_2 hfc_2 hc_3 hfc_3 hc_4 hfc_4 hc_5 hfc_5 hc_6 hfc_6 hc_7 hfc_7 hc_8 hfc_8 hc_9 hfc_9 hc_10 hfc_10
     have n0_ := Aside0.mk (PF.drew HP.out)
     clear HP
     have HP := n0_
     clear n0_
     refine start_ (n := 20) (S := fun w' => w'.cell? ⟨c, 5, none⟩ = some (.int .i64 x.c5) ∧ w'.cell? ⟨c, 9, none⟩ = some (.int .i64 x.c9)) (ds := [16, 19]) #[false, false, false, false, false, false, false, false, false, false, false, false, false, false, false, false, false, false, false, false] (by kernel_rfl) rfl rfl ⟨(blk_cell HP.out.1.cb 5).trans rfl, (blk_cell HP.out.1.cb 9).trans rfl⟩ (fun hHeld => ?_); refine with_tabW probe_Probe_Got.tab13 probe_Probe_Got.bits13 (fun HT_ HW_ => ?_)
     generalize World.drew w7 = w9 at HP hHeld ⊢
     refine pure_ (i := 0) (N := some 98) (v := ?_) (a' := ?_) #[true, false, false, false, false, false, false, false, false, false, false, false, false, false, false, false, false, false, false, false] rfl rfl (any_of HT_.out (by kernel_rfl)) (fun _ _ _ h => h) (Or.inl ⟨by rfl, ?_⟩) ?_ ?_
     rotate_left
     ·intro w'
      go_simp
      with_reducible rfl
     rotate_left
     ·simp only [Act.put, List.setIfInBounds_toArray, List.set_cons_zero, List.set_cons_succ, i64_w, i32_w]
      rfl
     refine pure_ (i := 1) (N := some 99) (v := ?_) (a' := ?_) #[true, true, false, false, false, false, false, false, false, false, false, false, false, false, false, false, false, false, false, false] rfl rfl (any_of HT_.out (by kernel_rfl)) (fun _ _ _ h => h) (Or.inl ⟨by rfl, ?_⟩) ?_ ?_
     rotate_left
     ·intro w'
      go_simp
      with_reducible rfl
     rotate_left
     ·simp only [Act.put, List.setIfInBounds_toArray, List.set_cons_zero, List.set_cons_succ, i64_w, i32_w]
      rfl
     refine pure_ (i := 2) (N := some 100) (v := ?_) (a' := ?_) #[true, true, true, false, false, false, false, false, false, false, false, false, false, false, false, false, false, false, false, false] rfl rfl (any_of HT_.out (by kernel_rfl)) (fun _ _ _ h => h) (Or.inl ⟨by rfl, ?_⟩) ?_ ?_
     rotate_left
     ·intro w'
      go_simp
      with_reducible rfl
     rotate_left
     ·simp only [Act.put, List.setIfInBounds_toArray, List.set_cons_zero, List.set_cons_succ, i64_w, i32_w]
      rfl
     refine pure_ (i := 3) (N := some 101) (v := ?_) (a' := ?_) #[true, true, true, true, false, false, false, false, false, false, false, false, false, false, false, false, false, false, false, false] rfl rfl (any_of HT_.out (by kernel_rfl)) (fun _ _ _ h => h) (Or.inl ⟨by rfl, ?_⟩) ?_ ?_
     rotate_left
     ·intro w'
      go_simp
      with_reducible rfl
     rotate_left
     ·simp only [Act.put, List.setIfInBounds_toArray, List.set_cons_zero, List.set_cons_succ, i64_w, i32_w]
      rfl
     refine pure_ (i := 4) (N := some 102) (v := ?_) (a' := ?_) #[true, true, true, true, true, false, false, false, false, false, false, false, false, false, false, false, false, false, false, false] rfl rfl (any_of HT_.out (by kernel_rfl)) (fun _ _ _ h => h) (Or.inl ⟨by rfl, ?_⟩) ?_ ?_
     rotate_left
     ·intro w'
      go_simp
      with_reducible rfl
     rotate_left
     ·simp only [Act.put, List.setIfInBounds_toArray, List.set_cons_zero, List.set_cons_succ, i64_w, i32_w]
      rfl
     refine take_ (i := 5) (N := some 103) (v := ?_) (a' := ?_) #[true, true, true, true, true, true, false, false, false, false, false, false, false, false, false, false, false, false, false, false] rfl rfl (take_ofW HT_.out HW_.out (by kernel_rfl)) (fun _ _ _ h => h) (Or.inl ⟨by rfl, ?_⟩) hHeld ?_ ?_
     rotate_left
     ·rintro w' ⟨s0, s1⟩
      go_simp
      with_reducible rfl
     rotate_left
     ·simp only [Act.put, List.setIfInBounds_toArray, List.set_cons_zero, List.set_cons_succ, i64_w, i32_w]
      rfl
     refine pure_ (i := 6) (N := some 104) (v := ?_) (a' := ?_) #[true, true, true, true, true, true, true, false, false, false, false, false, false, false, false, false, false, false, false, false] rfl rfl (any_of HT_.out (by kernel_rfl)) (fun _ _ _ h => h) (Or.inl ⟨by rfl, ?_⟩) ?_ ?_
     rotate_left
     ·intro w'
      go_simp
      with_reducible rfl
     rotate_left
     ·simp only [Act.put, List.setIfInBounds_toArray, List.set_cons_zero, List.set_cons_succ, i64_w, i32_w]
      rfl
     refine pure_ (i := 7) (N := some 105) (v := ?_) (a' := ?_) #[true, true, true, true, true, true, true, true, false, false, false, false, false, false, false, false, false, false, false, false] rfl rfl (any_of HT_.out (by kernel_rfl)) (fun _ _ _ h => h) (Or.inl ⟨by rfl, ?_⟩) ?_ ?_
     rotate_left
     ·intro w'
      go_simp
      with_reducible rfl
     rotate_left
     ·simp only [Act.put, List.setIfInBounds_toArray, List.set_cons_zero, List.set_cons_succ, i64_w, i32_w]
      rfl
     refine pure_ (i := 8) (N := some 106) (v := ?_) (a' := ?_) #[true, true, true, true, true, true, true, true, true, false, false, false, false, false, false, false, false, false, false, false] rfl rfl (any_of HT_.out (by kernel_rfl)) (fun _ _ _ h => h) (Or.inl ⟨by rfl, ?_⟩) ?_ ?_
     rotate_left
     ·intro w'
      go_simp
      with_reducible rfl
     rotate_left
     ·simp only [Act.put, List.setIfInBounds_toArray, List.set_cons_zero, List.set_cons_succ, i64_w, i32_w]
      rfl
     refine pure_ (i := 9) (N := some 107) (v := ?_) (a' := ?_) #[true, true, true, true, true, true, true, true, true, true, false, false, false, false, false, false, false, false, false, false] rfl rfl (any_of HT_.out (by kernel_rfl)) (fun _ _ _ h => h) (Or.inl ⟨by rfl, ?_⟩) ?_ ?_
     rotate_left
     ·intro w'
      go_simp
      with_reducible rfl
     rotate_left
     ·simp only [Act.put, List.setIfInBounds_toArray, List.set_cons_zero, List.set_cons_succ, i64_w, i32_w]
      rfl
     refine pure_ (i := 10) (N := some 108) (v := ?_) (a' := ?_) #[true, true, true, true, true, true, true, true, true, true, true, false, false, false, false, false, false, false, false, false] rfl rfl (any_of HT_.out (by kernel_rfl)) (fun _ _ _ h => h) (Or.inl ⟨by rfl, ?_⟩) ?_ ?_
     rotate_left
     ·intro w'
      go_simp
      with_reducible rfl
     rotate_left
     ·simp only [Act.put, List.setIfInBounds_toArray, List.set_cons_zero, List.set_cons_succ, i64_w, i32_w]
      rfl
     refine take_ (i := 11) (N := some 109) (v := ?_) (a' := ?_) #[true, true, true, true, true, true, true, true, true, true, true, true, false, false, false, false, false, false, false, false] rfl rfl (take_ofW HT_.out HW_.out (by kernel_rfl)) (fun _ _ _ h => h) (Or.inl ⟨by rfl, ?_⟩) hHeld ?_ ?_
     rotate_left
     ·rintro w' ⟨s0, s1⟩
      go_simp
      with_reducible rfl
     rotate_left
     ·simp only [Act.put, List.setIfInBounds_toArray, List.set_cons_zero, List.set_cons_succ, i64_w, i32_w]
      rfl
     refine pure_ (i := 12) (N := some 110) (v := ?_) (a' := ?_) #[true, true, true, true, true, true, true, true, true, true, true, true, true, false, false, false, false, false, false, false] rfl rfl (any_of HT_.out (by kernel_rfl)) (fun _ _ _ h => h) (Or.inl ⟨by rfl, ?_⟩) ?_ ?_
     rotate_left
     ·intro w'
      go_simp
      with_reducible rfl
     rotate_left
     ·simp only [Act.put, List.setIfInBounds_toArray, List.set_cons_zero, List.set_cons_succ, i64_w, i32_w]
      rfl
     refine pure_ (i := 13) (N := some 111) (v := ?_) (a' := ?_) #[true, true, true, true, true, true, true, true, true, true, true, true, true, true, false, false, false, false, false, false] rfl rfl (any_of HT_.out (by kernel_rfl)) (fun _ _ _ h => h) (Or.inl ⟨by rfl, ?_⟩) ?_ ?_
     rotate_left
     ·intro w'
      go_simp
      with_reducible rfl
     rotate_left
     ·simp only [Act.put, List.setIfInBounds_toArray, List.set_cons_zero, List.set_cons_succ, i64_w, i32_w]
      rfl
     refine pure_ (i := 14) (N := some 112) (v := ?_) (a' := ?_) #[true, true, true, true, true, true, true, true, true, true, true, true, true, true, true, false, false, false, false, false] rfl rfl (any_of HT_.out (by kernel_rfl)) (fun _ _ _ h => h) (Or.inl ⟨by rfl, ?_⟩) ?_ ?_
     rotate_left
     ·intro w'
      go_simp
      with_reducible rfl
     rotate_left
     ·simp only [Act.put, List.setIfInBounds_toArray, List.set_cons_zero, List.set_cons_succ, i64_w, i32_w]
      rfl
     refine pure_ (i := 15) (N := some 113) (v := ?_) (a' := ?_) #[true, true, true, true, true, true, true, true, true, true, true, true, true, true, true, true, false, false, false, false] rfl rfl (any_of HT_.out (by kernel_rfl)) (fun _ _ _ h => h) (Or.inl ⟨by rfl, ?_⟩) ?_ ?_
     rotate_left
     ·intro w'
      go_simp
      with_reducible rfl
     rotate_left
     ·simp only [Act.put, List.setIfInBounds_toArray, List.set_cons_zero, List.set_cons_succ, i64_w, i32_w]
      rfl
     refine last_ (i := 16) (N := none) #[true, true, true, true, true, true, true, true, true, true, true, true, true, true, true, true, true, false, false, false] rfl rfl (one_of HT_.out (by kernel_rfl)) (by decide) (fun K hK => ?_)
     have hs_ : w9.cell? ⟨c, 5, none⟩ = some (.int .i64 x.c5) := (blk_cell HP.out.1.cb 5).trans rfl
     have hfs_ := blk_frozen HP.out.1.cb 5
     refine skip_ (w1 := ?_) (by rfl) rfl ?_ ?_
     rotate_left
     ·go_simp
      rfl
     have n0_ : Aside0 (PF w0 w (w9.setCell ⟨c, 5, none⟩ (.int .i64 fr2)) g m s0_0.n s0_0.o s0_0.b (keysOf (L1 ++ (a1, c, x) :: L2)) (rowsOf L1 ++ (c, #[.int .i64 x.c0, .int .i64 x.c1, .int .i64 x.c2, .int .i64 x.c3, .int .i64 x.c4, .int .i64 fr2, .int .i64 x.c6, .int .i64 x.c7, .int .i64 a4, .int .i64 x.c9, .int .i64 a2]) :: rowsOf L2)) := ⟨HP.out.setc 5 _⟩
     clear HP hs_ hfs_
     have HP := n0_
     clear n0_
     generalize (w9.setCell ⟨c, 5, none⟩ (.int .i64 fr2)) = w10 at HP ⊢
     refine hK.out _ _ ?_
     clear hK K
     refine pure_ (i := 17) (N := some 114) (v := ?_) (a' := ?_) #[true, true, true, true, true, true, true, true, true, true, true, true, true, true, true, true, true, true, false, false] rfl rfl (any_of HT_.out (by kernel_rfl)) (fun _ _ _ h => h) (Or.inl ⟨by rfl, ?_⟩) ?_ ?_
     rotate_left
     ·intro w'
      go_simp
      with_reducible rfl
     rotate_left
     ·simp only [Act.put, List.setIfInBounds_toArray, List.set_cons_zero, List.set_cons_succ, i64_w, i32_w]
      rfl
     refine pure_ (i := 18) (N := some 115) (v := ?_) (a' := ?_) #[true, true, true, true, true, true, true, true, true, true, true, true, true, true, true, true, true, true, true, false] rfl rfl (any_of HT_.out (by kernel_rfl)) (fun _ _ _ h => h) (Or.inl ⟨by rfl, ?_⟩) ?_ ?_
     rotate_left
     ·intro w'
      go_simp
      with_reducible rfl
     rotate_left
     ·simp only [Act.put, List.setIfInBounds_toArray, List.set_cons_zero, List.set_cons_succ, i64_w, i32_w]
      rfl
     refine last_ (i := 19) (N := none) #[true, true, true, true, true, true, true, true, true, true, true, true, true, true, true, true, true, true, true, true] rfl rfl (one_of HT_.out (by kernel_rfl)) (by decide) (fun K hK => ?_)
     have hs_ : w10.cell? ⟨c, 9, none⟩ = some (.int .i64 x.c9) := (blk_cell HP.out.1.cb 9).trans rfl
     have hfs_ := blk_frozen HP.out.1.cb 9
     refine skip_ (w1 := ?_) (by rfl) rfl ?_ ?_
     rotate_left
     ·go_simp
      rfl
     have n0_ : Aside0 (PF w0 w (w10.setCell ⟨c, 9, none⟩ (.int .i64 la2)) g m s0_0.n s0_0.o s0_0.b (keysOf (L1 ++ (a1, c, x) :: L2)) (rowsOf L1 ++ (c, #[.int .i64 x.c0, .int .i64 x.c1, .int .i64 x.c2, .int .i64 x.c3, .int .i64 x.c4, .int .i64 fr2, .int .i64 x.c6, .int .i64 x.c7, .int .i64 a4, .int .i64 la2, .int .i64 a2]) :: rowsOf L2)) := ⟨HP.out.setc 9 _⟩
     clear HP hs_ hfs_
     have HP := n0_
     clear n0_
     generalize (w10.setCell ⟨c, 9, none⟩ (.int .i64 la2)) = w11 at HP ⊢
     refine hK.out _ _ ?_
     clear hK K
     refine done_ (done_of HT_.out (by kernel_rfl)) ?_
     clear hHeld HT_ HW_
     have hg_0 : w11.cell? ⟨g, 0, none⟩ = some (.map (some m)) := (blk_cell HP.out.1.blk 0).trans rfl
     have hg_1 : w11.cell? ⟨g, 1, none⟩ = some (.int .i64 s0_0.n) := (blk_cell HP.out.1.blk 1).trans rfl
     have hg_2 : w11.cell? ⟨g, 2, none⟩ = some (.int .i64 s0_0.o) := (blk_cell HP.out.1.blk 2).trans rfl
     have hg_3 : w11.cell? ⟨g, 3, none⟩ = some (.int .i64 s0_0.b) := (blk_cell HP.out.1.blk 3).trans rfl
     have hfg_0 := blk_frozen HP.out.1.blk 0
     have hfg_1 := blk_frozen HP.out.1.blk 1
     have hfg_2 := blk_frozen HP.out.1.blk 2
     have hfg_3 := blk_frozen HP.out.1.blk 3
     have hc_0 := (blk_cell HP.out.1.cb 0).trans rfl
     have hc_1 := (blk_cell HP.out.1.cb 1).trans rfl
     have hc_2 := (blk_cell HP.out.1.cb 2).trans rfl
     have hc_3 := (blk_cell HP.out.1.cb 3).trans rfl
     have hc_4 := (blk_cell HP.out.1.cb 4).trans rfl
     have hc_5 := (blk_cell HP.out.1.cb 5).trans rfl
     have hc_6 := (blk_cell HP.out.1.cb 6).trans rfl
     have hc_7 := (blk_cell HP.out.1.cb 7).trans rfl
     have hc_8 := (blk_cell HP.out.1.cb 8).trans rfl
     have hc_9 := (blk_cell HP.out.1.cb 9).trans rfl
     have hc_10 := (blk_cell HP.out.1.cb 10).trans rfl
     have hfc_0 := blk_frozen HP.out.1.cb 0
     have hfc_1 := blk_frozen HP.out.1.cb 1
     have hfc_2 := blk_frozen HP.out.1.cb 2
     have hfc_3 := blk_frozen HP.out.1.cb 3
     have hfc_4 := blk_frozen HP.out.1.cb 4
     have hfc_5 := blk_frozen HP.out.1.cb 5
     have hfc_6 := blk_frozen HP.out.1.cb 6
     have hfc_7 := blk_frozen HP.out.1.cb 7
     have hfc_8 := blk_frozen HP.out.1.cb 8
     have hfc_9 := blk_frozen HP.out.1.cb 9
     have hfc_10 := blk_frozen HP.out.1.cb 10
     have hx0_4 := blk_frozen (PF.setc HP.out 3 (.int .i64 cn)).1.cb 4
     have hy0_4 := (blk_cell (PF.setc HP.out 3 (.int .i64 cn)).1.cb 4).trans rfl
     go_upto_region 16 with (first | fail)
     clear hx0_4 hy0_4
     have n0_ : Aside0 (PF w0 w ((w11.setCell ⟨c, 3, none⟩ (.int .i64 cn)).setCell ⟨c, 4, none⟩ (.int .i64 by_)) g m s0_0.n s0_0.o s0_0.b (keysOf (L1 ++ (a1, c, x) :: L2)) (rowsOf L1 ++ (c, #[.int .i64 x.c0, .int .i64 x.c1, .int .i64 x.c2, .int .i64 cn, .int .i64 by_, .int .i64 fr2, .int .i64 x.c6, .int .i64 x.c7, .int .i64 a4, .int .i64 la2, .int .i64 a2]) :: rowsOf L2)) := ⟨(PF.setc (PF.setc HP.out 3 (.int .i64 cn)) 4 (.int .i64 by_))⟩
     clear HP
     clear hg_0 hfg_0 hg_1 hfg_1 hg_2 hfg_2 hg_3 hfg_3
     clear hc_0 hfc_0 hc_1 hfc_1 hc_2 hfc_2 hc_3 hfc_3 hc_4 hfc_4 hc_5 hfc_5 hc_6 hfc_6 hc_7 hfc_7 hc_8 hfc_8 hc_9 hfc_9 hc_10 hfc_10
     generalize ((w11.setCell ⟨c, 3, none⟩ (.int .i64 cn)).setCell ⟨c, 4, none⟩ (.int .i64 by_)) = w12 at n0_ ⊢
     have HP := n0_
     clear n0_
     have hg_0 : w12.cell? ⟨g, 0, none⟩ = some (.map (some m)) := (blk_cell HP.out.1.blk 0).trans rfl
     have hg_1 : w12.cell? ⟨g, 1, none⟩ = some (.int .i64 s0_0.n) := (blk_cell HP.out.1.blk 1).trans rfl
     have hg_2 : w12.cell? ⟨g, 2, none⟩ = some (.int .i64 s0_0.o) := (blk_cell HP.out.1.blk 2).trans rfl
     have hg_3 : w12.cell? ⟨g, 3, none⟩ = some (.int .i64 s0_0.b) := (blk_cell HP.out.1.blk 3).trans rfl
     have hfg_0 := blk_frozen HP.out.1.blk 0
     have hfg_1 := blk_frozen HP.out.1.blk 1
     have hfg_2 := blk_frozen HP.out.1.blk 2
     have hfg_3 := blk_frozen HP.out.1.blk 3
     go_wp2_with (first | ((with_reducible refine gate_callee (f := 22) rfl ?_); refine goesL_ (some 132) rfl rfl Try.func22 (by kernel_rfl) rfl #[.pointer (some ⟨c, 0, none⟩)] rfl (by (try simp only [List.map_toArray, List.map_cons, List.map_nil]); first | done | rfl) ?_; (refine (probe_cluster_result.calls k c (x.c0) (x.c1) (x.c2) (cn) (by_) (fr2) (x.c6) (x.c7) (a4) (la2) (a2) y0 y1 y2 y3 y4 y5 y6 y7 y8 y9 y10 y11 w0 _ ⟨HP.out.1.cb, HP.out.1.cge⟩ HP.out.2.1 AR.out).mono ?_); rintro e w13 ⟨rfl, hi, hb, hk⟩; refine ⟨_, rfl, ?_⟩; have n0_ := Aside0.mk (PF.res HP.out hi hb hk); clear HP; have HP := n0_; clear n0_; clear hi hb hk; clear hg_0 hfg_0 hg_1 hfg_1 hg_2 hfg_2 hg_3 hfg_3; have hg_0 : w13.cell? ⟨g, 0, none⟩ = some (.map (some m)) := (blk_cell HP.out.1.blk 0).trans rfl; have hg_1 : w13.cell? ⟨g, 1, none⟩ = some (.int .i64 s0_0.n) := (blk_cell HP.out.1.blk 1).trans rfl; have hg_2 : w13.cell? ⟨g, 2, none⟩ = some (.int .i64 s0_0.o) := (blk_cell HP.out.1.blk 2).trans rfl; have hg_3 : w13.cell? ⟨g, 3, none⟩ = some (.int .i64 s0_0.b) := (blk_cell HP.out.1.blk 3).trans rfl; have hfg_0 := blk_frozen HP.out.1.blk 0; have hfg_1 := blk_frozen HP.out.1.blk 1; have hfg_2 := blk_frozen HP.out.1.blk 2; have hfg_3 := blk_frozen HP.out.1.blk 3))
     have hF := HP.out.setg (f0' := s0_0.n) (f1' := s0_0.o) (f2' := b2) 3 (.int .i64 b2) rfl
     go_ret
     exact ⟨rfl, hL ▸ hF.1.back (y := ⟨y1, y2, y3, y4, y5, y6, y7, y8, y9, y10, y11⟩) hn rfl, hF.2.1, hF.2.2⟩
    ·rw [if_neg c9] at h
     have k7b : (x.c3 == 0) = false := beq_eq_false_iff_ne.mpr c7
     have k8b : decide (x.c6 ≤ a3) = false := decide_eq_false c8
     have k9b : decide (a4 < x.c8) = false := decide_eq_false c9
     have C7 := Aside0.mk c7
     clear c7 c8 c9
     simp only [gotu, Option.bind_eq_some_iff] at h
     obtain ⟨fr2, hf_, la2, hla_, cn, hcn_, by_, hby_, b, AR_, b2, hb2_, h⟩ := h
     have hfr : (if a3 < x.c5 then a3 else x.c5) = fr2 := Option.some.inj hf_
     have hla : (if x.c9 < a4 then a4 else x.c9) = la2 := Option.some.inj hla_
     clear hf_ hla_
     have hcn := Option.some.inj hcn_
     have hby := Option.some.inj hby_
     obtain ⟨y0, y1, y2, y3, y4, y5, y6, y7, y8, y9, y10, y11⟩ := b
     have hb2 : (if s0_0.b < y0 then y0 else s0_0.b) = b2 := Option.some.inj hb2_
     have AR := Aside0.mk AR_
     clear hcn_ hby_ hb2_ AR_
     simp only [Option.some.injEq, Prod.mk.injEq] at h
     obtain ⟨rfl, rfl⟩ := h
     go_enter Try.func10, Try.ntmps10
     go_upto_region 7 with (first | (go_at_call 20; (with_reducible refine (probe_good.calls a2 a3 _ _ A1.out).mono ?_); rintro e w5 ⟨rfl, hd⟩; have hb5 : Below w.heap.size w w5 := (by obtain ⟨n, rfl⟩ := hd.out; exact pw_below_drewN (Below.refl _ _) n); have n0_ := Aside0.mk (PF.below HP.out hb5); clear HP hd hb5; have HP := n0_; clear n0_; have hg_0 : w5.cell? ⟨g, 0, none⟩ = some (.map (some m)) := (blk_cell HP.out.1.blk 0).trans rfl; have hg_1 : w5.cell? ⟨g, 1, none⟩ = some (.int .i64 s0_0.n) := (blk_cell HP.out.1.blk 1).trans rfl; have hg_2 : w5.cell? ⟨g, 2, none⟩ = some (.int .i64 s0_0.o) := (blk_cell HP.out.1.blk 2).trans rfl; have hg_3 : w5.cell? ⟨g, 3, none⟩ = some (.int .i64 s0_0.b) := (blk_cell HP.out.1.blk 3).trans rfl; have hfg_0 := blk_frozen HP.out.1.blk 0; have hfg_1 := blk_frozen HP.out.1.blk 1; have hfg_2 := blk_frozen HP.out.1.blk 2; have hfg_3 := blk_frozen HP.out.1.blk 3; have hc_0 := (blk_cell HP.out.1.cb 0).trans rfl; have hc_1 := (blk_cell HP.out.1.cb 1).trans rfl; have hc_2 := (blk_cell HP.out.1.cb 2).trans rfl; have hc_3 := (blk_cell HP.out.1.cb 3).trans rfl; have hc_4 := (blk_cell HP.out.1.cb 4).trans rfl; have hc_5 := (blk_cell HP.out.1.cb 5).trans rfl; have hc_6 := (blk_cell HP.out.1.cb 6).trans rfl; have hc_7 := (blk_cell HP.out.1.cb 7).trans rfl; have hc_8 := (blk_cell HP.out.1.cb 8).trans rfl; have hc_9 := (blk_cell HP.out.1.cb 9).trans rfl; have hc_10 := (blk_cell HP.out.1.cb 10).trans rfl; have hfc_0 := blk_frozen HP.out.1.cb 0; have hfc_1 := blk_frozen HP.out.1.cb 1; have hfc_2 := blk_frozen HP.out.1.cb 2; have hfc_3 := blk_frozen HP.out.1.cb 3; have hfc_4 := blk_frozen HP.out.1.cb 4; have hfc_5 := blk_frozen HP.out.1.cb 5; have hfc_6 := blk_frozen HP.out.1.cb 6; have hfc_7 := blk_frozen HP.out.1.cb 7; have hfc_8 := blk_frozen HP.out.1.cb 8; have hfc_9 := blk_frozen HP.out.1.cb 9; have hfc_10 := blk_frozen HP.out.1.cb 10; have hlk := look_in Try.underlying40 Try.underlying3 HP.out.1.mp HF.out true))
     go_upto_region 9 with (first | fail)
     go_upto_region 11 with (first | fail)
     go_upto_region 13 with (first | fail)
     clear hg_0 hfg_0 hg_1 hfg_1 hg_2 hfg_2 hg_3 hfg_3
     clear hc_0 hfc_0 hc_1 hfc_1 hc_2 hfc_2 hc_3 hfc_3 hc_4 hfc_4 hc_5 hfc_5 hc_6 hfc_6 hc_7 hfc_7 hc_8 hfc_8 hc_9 hfc_9 hc_10 hfc_10
     have n0_ := Aside0.mk (PF.drew HP.out)
     clear HP
     have HP := n0_
     clear n0_
     refine start_ (n := 20) (S := fun w' => w'.cell? ⟨c, 5, none⟩ = some (.int .i64 x.c5) ∧ w'.cell? ⟨c, 9, none⟩ = some (.int .i64 x.c9)) (ds := [16, 19]) #[false, false, false, false, false, false, false, false, false, false, false, false, false, false, false, false, false, false, false, false] (by kernel_rfl) rfl rfl ⟨(blk_cell HP.out.1.cb 5).trans rfl, (blk_cell HP.out.1.cb 9).trans rfl⟩ (fun hHeld => ?_); refine with_tabW probe_Probe_Got.tab13 probe_Probe_Got.bits13 (fun HT_ HW_ => ?_)
     generalize World.drew w5 = w9 at HP hHeld ⊢
     refine pure_ (i := 0) (N := some 98) (v := ?_) (a' := ?_) #[true, false, false, false, false, false, false, false, false, false, false, false, false, false, false, false, false, false, false, false] rfl rfl (any_of HT_.out (by kernel_rfl)) (fun _ _ _ h => h) (Or.inl ⟨by rfl, ?_⟩) ?_ ?_
     rotate_left
     ·intro w'
      go_simp
      with_reducible rfl
     rotate_left
     ·simp only [Act.put, List.setIfInBounds_toArray, List.set_cons_zero, List.set_cons_succ, i64_w, i32_w]
      rfl
     refine pure_ (i := 1) (N := some 99) (v := ?_) (a' := ?_) #[true, true, false, false, false, false, false, false, false, false, false, false, false, false, false, false, false, false, false, false] rfl rfl (any_of HT_.out (by kernel_rfl)) (fun _ _ _ h => h) (Or.inl ⟨by rfl, ?_⟩) ?_ ?_
     rotate_left
     ·intro w'
      go_simp
      with_reducible rfl
     rotate_left
     ·simp only [Act.put, List.setIfInBounds_toArray, List.set_cons_zero, List.set_cons_succ, i64_w, i32_w]
      rfl
     refine pure_ (i := 2) (N := some 100) (v := ?_) (a' := ?_) #[true, true, true, false, false, false, false, false, false, false, false, false, false, false, false, false, false, false, false, false] rfl rfl (any_of HT_.out (by kernel_rfl)) (fun _ _ _ h => h) (Or.inl ⟨by rfl, ?_⟩) ?_ ?_
     rotate_left
     ·intro w'
      go_simp
      with_reducible rfl
     rotate_left
     ·simp only [Act.put, List.setIfInBounds_toArray, List.set_cons_zero, List.set_cons_succ, i64_w, i32_w]
      rfl
     refine pure_ (i := 3) (N := some 101) (v := ?_) (a' := ?_) #[true, true, true, true, false, false, false, false, false, false, false, false, false, false, false, false, false, false, false, false] rfl rfl (any_of HT_.out (by kernel_rfl)) (fun _ _ _ h => h) (Or.inl ⟨by rfl, ?_⟩) ?_ ?_
     rotate_left
     ·intro w'
      go_simp
      with_reducible rfl
     rotate_left
     ·simp only [Act.put, List.setIfInBounds_toArray, List.set_cons_zero, List.set_cons_succ, i64_w, i32_w]
      rfl
     refine pure_ (i := 4) (N := some 102) (v := ?_) (a' := ?_) #[true, true, true, true, true, false, false, false, false, false, false, false, false, false, false, false, false, false, false, false] rfl rfl (any_of HT_.out (by kernel_rfl)) (fun _ _ _ h => h) (Or.inl ⟨by rfl, ?_⟩) ?_ ?_
     rotate_left
     ·intro w'
      go_simp
      with_reducible rfl
     rotate_left
     ·simp only [Act.put, List.setIfInBounds_toArray, List.set_cons_zero, List.set_cons_succ, i64_w, i32_w]
      rfl
     refine take_ (i := 5) (N := some 103) (v := ?_) (a' := ?_) #[true, true, true, true, true, true, false, false, false, false, false, false, false, false, false, false, false, false, false, false] rfl rfl (take_ofW HT_.out HW_.out (by kernel_rfl)) (fun _ _ _ h => h) (Or.inl ⟨by rfl, ?_⟩) hHeld ?_ ?_
     rotate_left
     ·rintro w' ⟨s0, s1⟩
      go_simp
      with_reducible rfl
     rotate_left
     ·simp only [Act.put, List.setIfInBounds_toArray, List.set_cons_zero, List.set_cons_succ, i64_w, i32_w]
      rfl
     refine pure_ (i := 6) (N := some 104) (v := ?_) (a' := ?_) #[true, true, true, true, true, true, true, false, false, false, false, false, false, false, false, false, false, false, false, false] rfl rfl (any_of HT_.out (by kernel_rfl)) (fun _ _ _ h => h) (Or.inl ⟨by rfl, ?_⟩) ?_ ?_
     rotate_left
     ·intro w'
      go_simp
      with_reducible rfl
     rotate_left
     ·simp only [Act.put, List.setIfInBounds_toArray, List.set_cons_zero, List.set_cons_succ, i64_w, i32_w]
      rfl
     refine pure_ (i := 7) (N := some 105) (v := ?_) (a' := ?_) #[true, true, true, true, true, true, true, true, false, false, false, false, false, false, false, false, false, false, false, false] rfl rfl (any_of HT_.out (by kernel_rfl)) (fun _ _ _ h => h) (Or.inl ⟨by rfl, ?_⟩) ?_ ?_
     rotate_left
     ·intro w'
      go_simp
      with_reducible rfl
     rotate_left
     ·simp only [Act.put, List.setIfInBounds_toArray, List.set_cons_zero, List.set_cons_succ, i64_w, i32_w]
      rfl
     refine pure_ (i := 8) (N := some 106) (v := ?_) (a' := ?_) #[true, true, true, true, true, true, true, true, true, false, false, false, false, false, false, false, false, false, false, false] rfl rfl (any_of HT_.out (by kernel_rfl)) (fun _ _ _ h => h) (Or.inl ⟨by rfl, ?_⟩) ?_ ?_
     rotate_left
     ·intro w'
      go_simp
      with_reducible rfl
     rotate_left
     ·simp only [Act.put, List.setIfInBounds_toArray, List.set_cons_zero, List.set_cons_succ, i64_w, i32_w]
      rfl
     refine pure_ (i := 9) (N := some 107) (v := ?_) (a' := ?_) #[true, true, true, true, true, true, true, true, true, true, false, false, false, false, false, false, false, false, false, false] rfl rfl (any_of HT_.out (by kernel_rfl)) (fun _ _ _ h => h) (Or.inl ⟨by rfl, ?_⟩) ?_ ?_
     rotate_left
     ·intro w'
      go_simp
      with_reducible rfl
     rotate_left
     ·simp only [Act.put, List.setIfInBounds_toArray, List.set_cons_zero, List.set_cons_succ, i64_w, i32_w]
      rfl
     refine pure_ (i := 10) (N := some 108) (v := ?_) (a' := ?_) #[true, true, true, true, true, true, true, true, true, true, true, false, false, false, false, false, false, false, false, false] rfl rfl (any_of HT_.out (by kernel_rfl)) (fun _ _ _ h => h) (Or.inl ⟨by rfl, ?_⟩) ?_ ?_
     rotate_left
     ·intro w'
      go_simp
      with_reducible rfl
     rotate_left
     ·simp only [Act.put, List.setIfInBounds_toArray, List.set_cons_zero, List.set_cons_succ, i64_w, i32_w]
      rfl
     refine take_ (i := 11) (N := some 109) (v := ?_) (a' := ?_) #[true, true, true, true, true, true, true, true, true, true, true, true, false, false, false, false, false, false, false, false] rfl rfl (take_ofW HT_.out HW_.out (by kernel_rfl)) (fun _ _ _ h => h) (Or.inl ⟨by rfl, ?_⟩) hHeld ?_ ?_
     rotate_left
     ·rintro w' ⟨s0, s1⟩
      go_simp
      with_reducible rfl
     rotate_left
     ·simp only [Act.put, List.setIfInBounds_toArray, List.set_cons_zero, List.set_cons_succ, i64_w, i32_w]
      rfl
     refine pure_ (i := 12) (N := some 110) (v := ?_) (a' := ?_) #[true, true, true, true, true, true, true, true, true, true, true, true, true, false, false, false, false, false, false, false] rfl rfl (any_of HT_.out (by kernel_rfl)) (fun _ _ _ h => h) (Or.inl ⟨by rfl, ?_⟩) ?_ ?_
     rotate_left
     ·intro w'
      go_simp
      with_reducible rfl
     rotate_left
     ·simp only [Act.put, List.setIfInBounds_toArray, List.set_cons_zero, List.set_cons_succ, i64_w, i32_w]
      rfl
     refine pure_ (i := 13) (N := some 111) (v := ?_) (a' := ?_) #[true, true, true, true, true, true, true, true, true, true, true, true, true, true, false, false, false, false, false, false] rfl rfl (any_of HT_.out (by kernel_rfl)) (fun _ _ _ h => h) (Or.inl ⟨by rfl, ?_⟩) ?_ ?_
     rotate_left
     ·intro w'
      go_simp
      with_reducible rfl
     rotate_left
     ·simp only [Act.put, List.setIfInBounds_toArray, List.set_cons_zero, List.set_cons_succ, i64_w, i32_w]
      rfl
     refine pure_ (i := 14) (N := some 112) (v := ?_) (a' := ?_) #[true, true, true, true, true, true, true, true, true, true, true, true, true, true, true, false, false, false, false, false] rfl rfl (any_of HT_.out (by kernel_rfl)) (fun _ _ _ h => h) (Or.inl ⟨by rfl, ?_⟩) ?_ ?_
     rotate_left
     ·intro w'
      go_simp
      with_reducible rfl
     rotate_left
     ·simp only [Act.put, List.setIfInBounds_toArray, List.set_cons_zero, List.set_cons_succ, i64_w, i32_w]
      rfl
     refine pure_ (i := 15) (N := some 113) (v := ?_) (a' := ?_) #[true, true, true, true, true, true, true, true, true, true, true, true, true, true, true, true, false, false, false, false] rfl rfl (any_of HT_.out (by kernel_rfl)) (fun _ _ _ h => h) (Or.inl ⟨by rfl, ?_⟩) ?_ ?_
     rotate_left
     ·intro w'
      go_simp
      with_reducible rfl
     rotate_left
     ·simp only [Act.put, List.setIfInBounds_toArray, List.set_cons_zero, List.set_cons_succ, i64_w, i32_w]
      rfl
     refine last_ (i := 16) (N := none) #[true, true, true, true, true, true, true, true, true, true, true, true, true, true, true, true, true, false, false, false] rfl rfl (one_of HT_.out (by kernel_rfl)) (by decide) (fun K hK => ?_)
     have hs_ : w9.cell? ⟨c, 5, none⟩ = some (.int .i64 x.c5) := (blk_cell HP.out.1.cb 5).trans rfl
     have hfs_ := blk_frozen HP.out.1.cb 5
     refine skip_ (w1 := ?_) (by rfl) rfl ?_ ?_
     rotate_left
     ·go_simp
      rfl
     have n0_ : Aside0 (PF w0 w (w9.setCell ⟨c, 5, none⟩ (.int .i64 fr2)) g m s0_0.n s0_0.o s0_0.b (keysOf (L1 ++ (a1, c, x) :: L2)) (rowsOf L1 ++ (c, #[.int .i64 x.c0, .int .i64 x.c1, .int .i64 x.c2, .int .i64 x.c3, .int .i64 x.c4, .int .i64 fr2, .int .i64 x.c6, .int .i64 x.c7, .int .i64 x.c8, .int .i64 x.c9, .int .i64 x.c10]) :: rowsOf L2)) := ⟨HP.out.setc 5 _⟩
     clear HP hs_ hfs_
     have HP := n0_
     clear n0_
     generalize (w9.setCell ⟨c, 5, none⟩ (.int .i64 fr2)) = w10 at HP ⊢
     refine hK.out _ _ ?_
     clear hK K
     refine pure_ (i := 17) (N := some 114) (v := ?_) (a' := ?_) #[true, true, true, true, true, true, true, true, true, true, true, true, true, true, true, true, true, true, false, false] rfl rfl (any_of HT_.out (by kernel_rfl)) (fun _ _ _ h => h) (Or.inl ⟨by rfl, ?_⟩) ?_ ?_
     rotate_left
     ·intro w'
      go_simp
      with_reducible rfl
     rotate_left
     ·simp only [Act.put, List.setIfInBounds_toArray, List.set_cons_zero, List.set_cons_succ, i64_w, i32_w]
      rfl
     refine pure_ (i := 18) (N := some 115) (v := ?_) (a' := ?_) #[true, true, true, true, true, true, true, true, true, true, true, true, true, true, true, true, true, true, true, false] rfl rfl (any_of HT_.out (by kernel_rfl)) (fun _ _ _ h => h) (Or.inl ⟨by rfl, ?_⟩) ?_ ?_
     rotate_left
     ·intro w'
      go_simp
      with_reducible rfl
     rotate_left
     ·simp only [Act.put, List.setIfInBounds_toArray, List.set_cons_zero, List.set_cons_succ, i64_w, i32_w]
      rfl
     refine last_ (i := 19) (N := none) #[true, true, true, true, true, true, true, true, true, true, true, true, true, true, true, true, true, true, true, true] rfl rfl (one_of HT_.out (by kernel_rfl)) (by decide) (fun K hK => ?_)
     have hs_ : w10.cell? ⟨c, 9, none⟩ = some (.int .i64 x.c9) := (blk_cell HP.out.1.cb 9).trans rfl
     have hfs_ := blk_frozen HP.out.1.cb 9
     refine skip_ (w1 := ?_) (by rfl) rfl ?_ ?_
     rotate_left
     ·go_simp
      rfl
     have n0_ : Aside0 (PF w0 w (w10.setCell ⟨c, 9, none⟩ (.int .i64 la2)) g m s0_0.n s0_0.o s0_0.b (keysOf (L1 ++ (a1, c, x) :: L2)) (rowsOf L1 ++ (c, #[.int .i64 x.c0, .int .i64 x.c1, .int .i64 x.c2, .int .i64 x.c3, .int .i64 x.c4, .int .i64 fr2, .int .i64 x.c6, .int .i64 x.c7, .int .i64 x.c8, .int .i64 la2, .int .i64 x.c10]) :: rowsOf L2)) := ⟨HP.out.setc 9 _⟩
     clear HP hs_ hfs_
     have HP := n0_
     clear n0_
     generalize (w10.setCell ⟨c, 9, none⟩ (.int .i64 la2)) = w11 at HP ⊢
     refine hK.out _ _ ?_
     clear hK K
     refine done_ (done_of HT_.out (by kernel_rfl)) ?_
     clear hHeld HT_ HW_
     have hg_0 : w11.cell? ⟨g, 0, none⟩ = some (.map (some m)) := (blk_cell HP.out.1.blk 0).trans rfl
     have hg_1 : w11.cell? ⟨g, 1, none⟩ = some (.int .i64 s0_0.n) := (blk_cell HP.out.1.blk 1).trans rfl
     have hg_2 : w11.cell? ⟨g, 2, none⟩ = some (.int .i64 s0_0.o) := (blk_cell HP.out.1.blk 2).trans rfl
     have hg_3 : w11.cell? ⟨g, 3, none⟩ = some (.int .i64 s0_0.b) := (blk_cell HP.out.1.blk 3).trans rfl
     have hfg_0 := blk_frozen HP.out.1.blk 0
     have hfg_1 := blk_frozen HP.out.1.blk 1
     have hfg_2 := blk_frozen HP.out.1.blk 2
     have hfg_3 := blk_frozen HP.out.1.blk 3
     have hc_0 := (blk_cell HP.out.1.cb 0).trans rfl
     have hc_1 := (blk_cell HP.out.1.cb 1).trans rfl
     have hc_2 := (blk_cell HP.out.1.cb 2).trans rfl
     have hc_3 := (blk_cell HP.out.1.cb 3).trans rfl
     have hc_4 := (blk_cell HP.out.1.cb 4).trans rfl
     have hc_5 := (blk_cell HP.out.1.cb 5).trans rfl
     have hc_6 := (blk_cell HP.out.1.cb 6).trans rfl
     have hc_7 := (blk_cell HP.out.1.cb 7).trans rfl
     have hc_8 := (blk_cell HP.out.1.cb 8).trans rfl
     have hc_9 := (blk_cell HP.out.1.cb 9).trans rfl
     have hc_10 := (blk_cell HP.out.1.cb 10).trans rfl
     have hfc_0 := blk_frozen HP.out.1.cb 0
     have hfc_1 := blk_frozen HP.out.1.cb 1
     have hfc_2 := blk_frozen HP.out.1.cb 2
     have hfc_3 := blk_frozen HP.out.1.cb 3
     have hfc_4 := blk_frozen HP.out.1.cb 4
     have hfc_5 := blk_frozen HP.out.1.cb 5
     have hfc_6 := blk_frozen HP.out.1.cb 6
     have hfc_7 := blk_frozen HP.out.1.cb 7
     have hfc_8 := blk_frozen HP.out.1.cb 8
     have hfc_9 := blk_frozen HP.out.1.cb 9
     have hfc_10 := blk_frozen HP.out.1.cb 10
     have hx0_4 := blk_frozen (PF.setc HP.out 3 (.int .i64 cn)).1.cb 4
     have hy0_4 := (blk_cell (PF.setc HP.out 3 (.int .i64 cn)).1.cb 4).trans rfl
     go_upto_region 16 with (first | fail)
     clear hx0_4 hy0_4
     have n0_ : Aside0 (PF w0 w ((w11.setCell ⟨c, 3, none⟩ (.int .i64 cn)).setCell ⟨c, 4, none⟩ (.int .i64 by_)) g m s0_0.n s0_0.o s0_0.b (keysOf (L1 ++ (a1, c, x) :: L2)) (rowsOf L1 ++ (c, #[.int .i64 x.c0, .int .i64 x.c1, .int .i64 x.c2, .int .i64 cn, .int .i64 by_, .int .i64 fr2, .int .i64 x.c6, .int .i64 x.c7, .int .i64 x.c8, .int .i64 la2, .int .i64 x.c10]) :: rowsOf L2)) := ⟨(PF.setc (PF.setc HP.out 3 (.int .i64 cn)) 4 (.int .i64 by_))⟩
     clear HP
     clear hg_0 hfg_0 hg_1 hfg_1 hg_2 hfg_2 hg_3 hfg_3
     clear hc_0 hfc_0 hc_1 hfc_1 hc_2 hfc_2 hc_3 hfc_3 hc_4 hfc_4 hc_5 hfc_5 hc_6 hfc_6 hc_7 hfc_7 hc_8 hfc_8 hc_9 hfc_9 hc_10 hfc_10
     generalize ((w11.setCell ⟨c, 3, none⟩ (.int .i64 cn)).setCell ⟨c, 4, none⟩ (.int .i64 by_)) = w12 at n0_ ⊢
     have HP := n0_
     clear n0_
     have hg_0 : w12.cell? ⟨g, 0, none⟩ = some (.map (some m)) := (blk_cell HP.out.1.blk 0).trans rfl
     have hg_1 : w12.cell? ⟨g, 1, none⟩ = some (.int .i64 s0_0.n) := (blk_cell HP.out.1.blk 1).trans rfl
     have hg_2 : w12.cell? ⟨g, 2, none⟩ = some (.int .i64 s0_0.o) := (blk_cell HP.out.1.blk 2).trans rfl
     have hg_3 : w12.cell? ⟨g, 3, none⟩ = some (.int .i64 s0_0.b) := (blk_cell HP.out.1.blk 3).trans rfl
     have hfg_0 := blk_frozen HP.out.1.blk 0
     have hfg_1 := blk_frozen HP.out.1.blk 1
     have hfg_2 := blk_frozen HP.out.1.blk 2
     have hfg_3 := blk_frozen HP.out.1.blk 3
     go_wp2_with (first | ((with_reducible refine gate_callee (f := 22) rfl ?_); refine goesL_ (some 132) rfl rfl Try.func22 (by kernel_rfl) rfl #[.pointer (some ⟨c, 0, none⟩)] rfl (by (try simp only [List.map_toArray, List.map_cons, List.map_nil]); first | done | rfl) ?_; (refine (probe_cluster_result.calls k c (x.c0) (x.c1) (x.c2) (cn) (by_) (fr2) (x.c6) (x.c7) (x.c8) (la2) (x.c10) y0 y1 y2 y3 y4 y5 y6 y7 y8 y9 y10 y11 w0 _ ⟨HP.out.1.cb, HP.out.1.cge⟩ HP.out.2.1 AR.out).mono ?_); rintro e w13 ⟨rfl, hi, hb, hk⟩; refine ⟨_, rfl, ?_⟩; have n0_ := Aside0.mk (PF.res HP.out hi hb hk); clear HP; have HP := n0_; clear n0_; clear hi hb hk; clear hg_0 hfg_0 hg_1 hfg_1 hg_2 hfg_2 hg_3 hfg_3; have hg_0 : w13.cell? ⟨g, 0, none⟩ = some (.map (some m)) := (blk_cell HP.out.1.blk 0).trans rfl; have hg_1 : w13.cell? ⟨g, 1, none⟩ = some (.int .i64 s0_0.n) := (blk_cell HP.out.1.blk 1).trans rfl; have hg_2 : w13.cell? ⟨g, 2, none⟩ = some (.int .i64 s0_0.o) := (blk_cell HP.out.1.blk 2).trans rfl; have hg_3 : w13.cell? ⟨g, 3, none⟩ = some (.int .i64 s0_0.b) := (blk_cell HP.out.1.blk 3).trans rfl; have hfg_0 := blk_frozen HP.out.1.blk 0; have hfg_1 := blk_frozen HP.out.1.blk 1; have hfg_2 := blk_frozen HP.out.1.blk 2; have hfg_3 := blk_frozen HP.out.1.blk 3))
     have hF := HP.out.setg (f0' := s0_0.n) (f1' := s0_0.o) (f2' := b2) 3 (.int .i64 b2) rfl
     go_ret
     exact ⟨rfl, hL ▸ hF.1.back (y := ⟨y1, y2, y3, y4, y5, y6, y7, y8, y9, y10, y11⟩) hn rfl, hF.2.1, hF.2.2⟩
end Go.Proofs.Ytdddpmmpfemibaa.P
end

section
namespace Go.Proofs.Ytdddpmmpfemibaa.P
open Go.RowKit Go.Proofs.YtdddpmmpfemibaaW.PrintWords Go.Proofs.YtdddpmmpfemibaaW.PrintLast Go.Proofs.YtdddpmmpfemibaaW.PrintMore
attribute [local go_sem] max2_int min2_int max_two min_two max_three min_three max_four min_four   -- for this text's walks alone
set_option linter.unusedVariables false
set_option linter.unusedSimpArgs false
def flywheelref04_Rate.f (a0 : Int) (a1 : Int) : Option (Int) := (flywheelref02_Do.f a0 8000000 a1 1).bind fun t140 => (some t140)
set_option maxHeartbeats 8000000 in
set_option maxRecDepth 100000 in
theorem flywheelref04_Rate.calls (a0 : Int) (a1 : Int) (r : Int) (w : World) (h : flywheelref04_Rate.f a0 a1 = some r) :
  Calls Try.prog 31 #[.int .i64 a0, .int .i64 a1] w fun e w' => e = .returned (.int .i64 r) ∧ Below w.heap.size w w' := by
 have HB := Aside0.mk (Below.refl w.heap.size w)
 have H : ((flywheelref02_Do.f a0 8000000 a1 1).bind fun t140 => (some t140)) = some r := h
 clear h
 replace H := Option.bind_eq_some_iff.mp H
 obtain ⟨t140, A30, H⟩ := H
 replace H : (some t140) = some r := H
 have A3 := Aside0.mk A30
 clear A30
 obtain rfl := Option.some.inj H
 go_enter Try.func31, Try.ntmps31
 go_wp2_with (first | ((with_reducible refine gate_callee (f := 26) rfl ?_); refine goesL_ (some 7) rfl rfl Try.func26 (by kernel_rfl) rfl #[.int .i64 a0, .int .i64 8000000, .int .i64 a1, .int .i64 1] rfl (by (try simp only [List.map_toArray, List.map_cons, List.map_nil]); first | done | rfl | (simp only [List.length_drop, List.length_take]; rfl)) ?_; (with_reducible refine (flywheelref02_Do.calls a0 8000000 a1 1 t140 _ A3.out).mono ?_); rintro e w4 ⟨rfl, hb⟩; refine ⟨_, rfl, ?_⟩; have n0_ := Aside0.mk (below_step (by repeat (first | (with_reducible first | exact HB.out | apply below_alloc | apply pw_below_drewN | apply below_drew1) | exact HB.out)) hb); clear HB; have HB := n0_; clear n0_; (try clear hb); (try clear hb2); (try clear hk); (try clear hi)))
 go_ret
 exact ⟨by first | rfl | (simp [errW_none, errW_some] <;> rfl) | (simp [*, errW_none, errW_some] <;> rfl), by repeat (first | (with_reducible first | exact HB.out | apply below_alloc | apply pw_below_drewN | apply below_drew1) | exact HB.out)⟩
def flywheelref26_over.f (a0 : Int) (a1 : Int) : Option (Int) := if a1 ≤ 0 then (some 0) else ((flywheelref04_Rate.f a0 a1).bind fun t141 => (some t141))
set_option maxHeartbeats 8000000 in
set_option maxRecDepth 100000 in
theorem flywheelref26_over.calls (a0 : Int) (a1 : Int) (r : Int) (w : World) (h : flywheelref26_over.f a0 a1 = some r) :
  Calls Try.prog 28 #[.int .i64 a0, .int .i64 a1] w fun e w' => e = .returned (.int .i64 r) ∧ Below w.heap.size w w' := by
 have HB := Aside0.mk (Below.refl w.heap.size w)
 have H : (if a1 ≤ 0 then (some 0) else ((flywheelref04_Rate.f a0 a1).bind fun t141 => (some t141))) = some r := h
 clear h
 by_cases c3 : a1 ≤ 0
 ·rw [if_pos c3] at H
  have c3b0 : decide (a1 ≤ 0) = true := decide_eq_true c3
  clear c3
  obtain rfl := Option.some.inj H
  go_enter Try.func28, Try.ntmps28
  go_wp2
  go_ret
  exact ⟨by first | rfl | (simp [errW_none, errW_some] <;> rfl) | (simp [*, errW_none, errW_some] <;> rfl), by repeat (first | (with_reducible first | exact HB.out | apply below_alloc | apply pw_below_drewN | apply below_drew1) | exact HB.out)⟩
 ·rw [if_neg c3] at H
  have c3b0 : decide (a1 ≤ 0) = false := decide_eq_false c3
  clear c3
  replace H := Option.bind_eq_some_iff.mp H
  obtain ⟨t141, A40, H⟩ := H
  replace H : (some t141) = some r := H
  have A4 := Aside0.mk A40
  clear A40
  obtain rfl := Option.some.inj H
  go_enter Try.func28, Try.ntmps28
  go_wp2_with (first | ((with_reducible refine gate_callee (f := 31) rfl ?_); refine goesL_ (some 9) rfl rfl Try.func31 (by kernel_rfl) rfl #[.int .i64 a0, .int .i64 a1] rfl (by (try simp only [List.map_toArray, List.map_cons, List.map_nil]); first | done | rfl | (simp only [List.length_drop, List.length_take]; rfl)) ?_; (with_reducible refine (flywheelref04_Rate.calls a0 a1 t141 _ A4.out).mono ?_); rintro e w5 ⟨rfl, hb⟩; refine ⟨_, rfl, ?_⟩; have n0_ := Aside0.mk (below_step (by repeat (first | (with_reducible first | exact HB.out | apply below_alloc | apply pw_below_drewN | apply below_drew1) | exact HB.out)) hb); clear HB; have HB := n0_; clear n0_; (try clear hb); (try clear hb2); (try clear hk); (try clear hi)))
  go_ret
  exact ⟨by first | rfl | (simp [errW_none, errW_some] <;> rfl) | (simp [*, errW_none, errW_some] <;> rfl), by repeat (first | (with_reducible first | exact HB.out | apply below_alloc | apply pw_below_drewN | apply below_drew1) | exact HB.out)⟩
end Go.Proofs.Ytdddpmmpfemibaa.P
end

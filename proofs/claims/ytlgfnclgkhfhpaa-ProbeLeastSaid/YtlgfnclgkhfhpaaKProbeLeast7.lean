-- PUT TOGETHER by a program of this session: of the claim's texts, what is used
import Derived.Test.YtlgfnclgkhfhpaaKProbeLeast0
import Derived.Test.YtlgfnclgkhfhpaaKProbeLeast1
import Derived.Test.YtlgfnclgkhfhpaaKProbeLeast2
import Derived.Test.YtlgfnclgkhfhpaaKProbeLeast3
import Derived.Test.YtlgfnclgkhfhpaaKProbeLeast4
import Derived.Test.YtlgfnclgkhfhpaaKProbeLeast5
import Derived.Test.YtlgfnclgkhfhpaaKProbeLeast6
import Derived.Test.YtlgfnclgkhfhpaaProg
import Derived.Below
import Derived.Deep.Draws
import Derived.Deep.AppendLies
import Derived.Maps.AppendAt
import Derived.OwnWalk
import Derived.Laws.BytesArg
import Derived.Laws.MakeOwn
import Derived.Laws.OwnMore
import Derived.Deep.OwnRows
import Derived.Tactics
import Derived.Lib.ConvBytes
import Derived.Laws.Slices
import Derived.WalkKit
import Derived.KernelRfl
import Derived.RowKit3
import Derived.Deep.LoopGhost
import Derived.Deep.QuietTactic
import Derived.BigQuiet
import Derived.WideLaws
import Derived.Deep.DeepCutAuto
import Derived.Deep.CutBlock
import Derived.Deep.RegionHeld3
import Derived.Laws.Rows
import Derived.Lib.AppendStr
import Derived.ArgAppend
import Derived.Laws.IdiomCopy
import Derived.OrdersHeld
import Derived.Laws.BitsLemmas
import Derived.RowKit
import Derived.Laws.Externs
import Derived.Lib.Mul64
section
namespace Go.Proofs.Ytlgfnclgkhfhpaa.P
open Go.RowKit Go.Proofs.YtlgfnclgkhfhpaaW.PrintWords Go.Proofs.YtlgfnclgkhfhpaaW.PrintLast Go.Proofs.YtlgfnclgkhfhpaaW.PrintMore
attribute [local go_sem] max2_int min2_int max_two min_two max_three min_three max_four min_four   -- for this text's walks alone
set_option linter.unusedVariables false
set_option linter.unusedSimpArgs false
def errW : Option Int → Value
 | none => .nilIface
 | some c => .iface 0 (.int .i64 c)
theorem errW_none : errW none = .nilIface := rfl
theorem errW_some (c : Int) : errW (some c) = .iface 0 (.int .i64 c) := rfl
theorem info2 : (Try.prog.info? 2).map (fun i => (i.zero, i.size, i.bytes)) = some (some (.int .i64 0), 1, 8) := by kernel_rfl
structure S42 where
 f0 : Int
 f1 : Int
 f2 : Int
 f3 : Int
 f4 : Int
 f5 : Int
def z42 : S42 := ⟨(0 : Int), (0 : Int), (0 : Int), (0 : Int), (0 : Int), (0 : Int)⟩
def k42 : Kd S42 := Kd.iso (Kd.pair (Kd.int .i64) (Kd.pair (Kd.int .i64) (Kd.pair (Kd.int .i64) (Kd.pair (Kd.int .i64) (Kd.pair (Kd.int .i64) (Kd.int .i64)))))) (fun x : S42 => (x.f0, x.f1, x.f2, x.f3, x.f4, x.f5))
theorem k42_open {w : World} {x : S42} {cs : List Value} (h : k42.K w x cs) : cs = [.int .i64 x.f0, .int .i64 x.f1, .int .i64 x.f2, .int .i64 x.f3, .int .i64 x.f4, .int .i64 x.f5] := by
 obtain ⟨_, _, rfl, rfl, ⟨_, _, rfl, rfl, ⟨_, _, rfl, rfl, ⟨_, _, rfl, rfl, ⟨_, _, rfl, rfl, rfl⟩⟩⟩⟩⟩ := h
 exact rfl
theorem k42_mk (w : World) (x : S42)  : k42.K w x [.int .i64 x.f0, .int .i64 x.f1, .int .i64 x.f2, .int .i64 x.f3, .int .i64 x.f4, .int .i64 x.f5] := ⟨[.int .i64 x.f0], [.int .i64 x.f1, .int .i64 x.f2, .int .i64 x.f3, .int .i64 x.f4, .int .i64 x.f5], rfl, rfl, ⟨[.int .i64 x.f1], [.int .i64 x.f2, .int .i64 x.f3, .int .i64 x.f4, .int .i64 x.f5], rfl, rfl, ⟨[.int .i64 x.f2], [.int .i64 x.f3, .int .i64 x.f4, .int .i64 x.f5], rfl, rfl, ⟨[.int .i64 x.f3], [.int .i64 x.f4, .int .i64 x.f5], rfl, rfl, ⟨[.int .i64 x.f4], [.int .i64 x.f5], rfl, rfl, rfl⟩⟩⟩⟩⟩
def rd_T42 (xs : List S42) (i : Int) : S42 := xs.getD i.toNat z42
theorem at_T42 {w : World} {A : Option Addr} {n : Nat} {xs : List S42} (h : Kd.C k42 w A n xs) (i : Int) (h0 : 0 ≤ i) (h1 : i < n) : ∃ ad , A = some ad ∧ w.cell? (ad.add (i.toNat * 6)) = some (.int .i64 (rd_T42 xs i).f0) ∧ w.cell? ⟨(ad.add (i.toNat * 6)).block, (ad.add (i.toNat * 6)).off + 1, none⟩ = some (.int .i64 (rd_T42 xs i).f1) ∧ w.cell? ⟨(ad.add (i.toNat * 6)).block, (ad.add (i.toNat * 6)).off + 2, none⟩ = some (.int .i64 (rd_T42 xs i).f2) ∧ w.cell? ⟨(ad.add (i.toNat * 6)).block, (ad.add (i.toNat * 6)).off + 3, none⟩ = some (.int .i64 (rd_T42 xs i).f3) ∧ w.cell? ⟨(ad.add (i.toNat * 6)).block, (ad.add (i.toNat * 6)).off + 4, none⟩ = some (.int .i64 (rd_T42 xs i).f4) ∧ w.cell? ⟨(ad.add (i.toNat * 6)).block, (ad.add (i.toNat * 6)).off + 5, none⟩ = some (.int .i64 (rd_T42 xs i).f5) := by
 obtain ⟨ad, c, e, _, hK, hc0⟩ := Kd.C_get h z42 i h0 h1
 have hc : ∀ j u, c[j]? = some u → w.cell? (ad.add (i.toNat * 6 + j)) = some u := hc0
 obtain rfl := k42_open hK
 exact ⟨ad, e, hc 0 _ rfl, by rw [← add_field _ _ 1 (by omega)]; exact hc 1 _ rfl, by rw [← add_field _ _ 2 (by omega)]; exact hc 2 _ rfl, by rw [← add_field _ _ 3 (by omega)]; exact hc 3 _ rfl, by rw [← add_field _ _ 4 (by omega)]; exact hc 4 _ rfl, by rw [← add_field _ _ 5 (by omega)]; exact hc 5 _ rfl⟩
end Go.Proofs.Ytlgfnclgkhfhpaa.P
end

section
namespace Go.Proofs.Ytlgfnclgkhfhpaa.P
open Go.RowKit Go.Proofs.YtlgfnclgkhfhpaaW.PrintWords Go.Proofs.YtlgfnclgkhfhpaaW.PrintLast Go.Proofs.YtlgfnclgkhfhpaaW.PrintMore
attribute [local go_sem] max2_int min2_int max_two min_two max_three min_three max_four min_four   -- for this text's walks alone
set_option linter.unusedVariables false
set_option linter.unusedSimpArgs false
def flywheelkeep_Mod.f (a0 : Int) (a1 : Int) : Option (Int) := if a1 < 1 then (some 0) else (if a1 = 0 then (none) else (some (Int.tmod (wrap64 ((Int.tmod a0 a1) + a1)) a1)))
set_option maxHeartbeats 8000000 in
set_option maxRecDepth 100000 in
theorem flywheelkeep_Mod.calls (a0 : Int) (a1 : Int) (r : Int) (w : World) (h : flywheelkeep_Mod.f a0 a1 = some r) :
  Calls Try.prog 20 #[.int .i64 a0, .int .i64 a1] w fun e w' => e = .returned (.int .i64 r) ∧ Drawn0 w w' := by
 have H : (if a1 < 1 then (some 0) else (if a1 = 0 then (none) else (some (Int.tmod (wrap64 ((Int.tmod a0 a1) + a1)) a1)))) = some r := h
 clear h
 by_cases c3 : a1 < 1
 ·rw [if_pos c3] at H
  have c3b0 : decide (a1 < 1) = true := decide_eq_true c3
  clear c3
  obtain rfl := Option.some.inj H
  go_enter Try.func20, Try.ntmps20
  go_wp2
  go_ret
  exact ⟨by first | rfl | (simp; done) | (simp [*]; done), by repeat (first | exact Drawn0.refl _ | apply Drawn0.step)⟩
 ·rw [if_neg c3] at H
  have c3b0 : decide (a1 < 1) = false := decide_eq_false c3
  clear c3
  by_cases c4 : a1 = 0
  ·rw [if_pos c4] at H
   exact absurd H (by simp)
  ·rw [if_neg c4] at H
   have c4b0 : (a1 == 0) = false := beq_eq_false_iff_ne.mpr c4
   have c4b1 : (a1 != 0) = true := bne_iff_ne.mpr c4
   obtain rfl := Option.some.inj H
   go_enter Try.func20, Try.ntmps20
   go_wp2
   go_ret
   exact ⟨by first | rfl | (simp; done) | (simp [*]; done), by repeat (first | exact Drawn0.refl _ | apply Drawn0.step)⟩
def KeepT (w w' : World) : Prop := w.heap.size ≤ w'.heap.size ∧ ∀ (i : Nat) (cs : Array Value) (t : TypeId) (fr : Nat × Nat), w.heap[i]? = some (.cells cs t fr) → t ≠ 75 → t ≠ 78 → w'.heap[i]? = some (.cells cs t fr)
theorem KeepT.refl (w : World) : KeepT w w := ⟨Nat.le_refl _, fun _ _ _ _ h _ _ => h⟩
theorem KeepT.below {w W W1 : World} (h : KeepT w W) (hb : Below W.heap.size W W1) : KeepT w W1 := ⟨Nat.le_trans h.1 hb.size, fun i cs t fr hi h1 h2 => blk_below (h.2 i cs t fr hi h1 h2) hb⟩
theorem KeepT.set {w W : World} {g j t0 : Nat} {cs0 : Array Value} {u : Value} (h : KeepT w W) (hg : W.heap[g]? = some (.cells cs0 t0 (0, 0))) (h0 : t0 = 75 ∨ t0 = 78) : KeepT w (W.setCell ⟨g, j, none⟩ u) :=
 ⟨by simpa [World.setCell] using h.1, fun i cs t fr hi h1 h2 => by
  have hh := h.2 i cs t fr hi h1 h2
  rw [Below.heap_setCell W ⟨g, j, none⟩ u i (fun e => by
   have e' : i = g := e
   subst e'
   rw [hg] at hh
   injection hh with hh
   injection hh with _ hh
   subst hh
   rcases h0 with h0 | h0
   ·exact h1 h0
   ·exact h2 h0)]
  exact hh⟩
def P0 (w0 W : World) (g m : Nat) (f0 f1 f2 : Int) : Prop := W.heap[g]? = some (.cells #[.map (some m), .int .i64 f0, .int .i64 f1, .int .i64 f2] 75 (0, 0)) ∧ w0.heap.size ≤ g ∧ (∃ cl, W.heap[m]? = some (.map #[] cl)) ∧ w0.heap.size ≤ m
def P1 (w0 W : World) (g m c : Nat) (f0 f1 f2 : Int) (cs : Array Value) : Prop := W.heap[g]? = some (.cells #[.map (some m), .int .i64 f0, .int .i64 f1, .int .i64 f2] 75 (0, 0)) ∧ w0.heap.size ≤ g ∧ (∃ e cl, W.heap[m]? = some (.map #[{ key := .int .i64 1, val := .pointer (some ⟨c, 0, none⟩), born := e }] cl)) ∧ w0.heap.size ≤ m ∧ W.heap[c]? = some (.cells cs 78 (0, 0)) ∧ w0.heap.size ≤ c
def IsS75 (w0 W : World) (g : Nat) (f0 : Int) (f1 : Int) (f2 : Int) (f3 : Int) (f4 : Int) (f5 : Int) (f6 : Int) (f7 : Int) (f8 : Int) (f9 : Int) (f10 : Int) (f11 : Int) (f12 : Int) (f13 : Int) (f14 : Int) : Prop := (f3 = 0 ∧ ∃ m, P0 w0 W g m f0 f1 f2) ∨ (f3 = 1 ∧ ∃ m c, P1 w0 W g m c f0 f1 f2 #[.int .i64 f4, .int .i64 f5, .int .i64 f6, .int .i64 f7, .int .i64 f8, .int .i64 f9, .int .i64 f10, .int .i64 f11, .int .i64 f12, .int .i64 f13, .int .i64 f14])
theorem P0.below {w0 W W1 : World} {g m : Nat} {f0 f1 f2 : Int} (h : P0 w0 W g m f0 f1 f2) (hb : Below W.heap.size W W1) : P0 w0 W1 g m f0 f1 f2 := by
 obtain ⟨h1, h2, ⟨cl, h3⟩, h4⟩ := h
 exact ⟨blk_below h1 hb, h2, ⟨cl, blk_below h3 hb⟩, h4⟩
theorem P1.below {w0 W W1 : World} {g m c : Nat} {f0 f1 f2 : Int} {cs : Array Value} (h : P1 w0 W g m c f0 f1 f2 cs) (hb : Below W.heap.size W W1) : P1 w0 W1 g m c f0 f1 f2 cs := by
 obtain ⟨h1, h2, ⟨e, cl, h3⟩, h4, h5, h6⟩ := h
 exact ⟨blk_below h1 hb, h2, ⟨e, cl, blk_below h3 hb⟩, h4, blk_below h5 hb, h6⟩
theorem IsS75.ge {w0 W : World} {g : Nat} {f0 : Int} {f1 : Int} {f2 : Int} {f3 : Int} {f4 : Int} {f5 : Int} {f6 : Int} {f7 : Int} {f8 : Int} {f9 : Int} {f10 : Int} {f11 : Int} {f12 : Int} {f13 : Int} {f14 : Int} (h : IsS75 w0 W g f0 f1 f2 f3 f4 f5 f6 f7 f8 f9 f10 f11 f12 f13 f14) : w0.heap.size ≤ g := by
 rcases h with ⟨_, m, h⟩ | ⟨_, m, c, h⟩
 ·exact h.2.1
 ·exact h.2.1
theorem IsS75.below {w0 W : World} {g : Nat} {f0 : Int} {f1 : Int} {f2 : Int} {f3 : Int} {f4 : Int} {f5 : Int} {f6 : Int} {f7 : Int} {f8 : Int} {f9 : Int} {f10 : Int} {f11 : Int} {f12 : Int} {f13 : Int} {f14 : Int} {W1 : World} (h : IsS75 w0 W g f0 f1 f2 f3 f4 f5 f6 f7 f8 f9 f10 f11 f12 f13 f14) (hw : Below W.heap.size W W1) : IsS75 w0 W1 g f0 f1 f2 f3 f4 f5 f6 f7 f8 f9 f10 f11 f12 f13 f14 := by
 rcases h with ⟨e, m, h⟩ | ⟨e, m, c, h⟩
 ·exact .inl ⟨e, m, h.below hw⟩
 ·exact .inr ⟨e, m, c, h.below hw⟩
theorem IsS75.alloc {w0 W : World} {g : Nat} {f0 : Int} {f1 : Int} {f2 : Int} {f3 : Int} {f4 : Int} {f5 : Int} {f6 : Int} {f7 : Int} {f8 : Int} {f9 : Int} {f10 : Int} {f11 : Int} {f12 : Int} {f13 : Int} {f14 : Int} (h : IsS75 w0 W g f0 f1 f2 f3 f4 f5 f6 f7 f8 f9 f10 f11 f12 f13 f14) (o : Obj) : IsS75 w0 (W.alloc o) g f0 f1 f2 f3 f4 f5 f6 f7 f8 f9 f10 f11 f12 f13 f14 := h.below (below_alloc (Below.refl _ _) o)
theorem IsS75.drewN {w0 W : World} {g : Nat} {f0 : Int} {f1 : Int} {f2 : Int} {f3 : Int} {f4 : Int} {f5 : Int} {f6 : Int} {f7 : Int} {f8 : Int} {f9 : Int} {f10 : Int} {f11 : Int} {f12 : Int} {f13 : Int} {f14 : Int} (h : IsS75 w0 W g f0 f1 f2 f3 f4 f5 f6 f7 f8 f9 f10 f11 f12 f13 f14) (m : Nat) : IsS75 w0 (W.drewN m) g f0 f1 f2 f3 f4 f5 f6 f7 f8 f9 f10 f11 f12 f13 f14 := h.below (pw_below_drewN (Below.refl _ _) m)
theorem IsS75.drew {w0 W : World} {g : Nat} {f0 : Int} {f1 : Int} {f2 : Int} {f3 : Int} {f4 : Int} {f5 : Int} {f6 : Int} {f7 : Int} {f8 : Int} {f9 : Int} {f10 : Int} {f11 : Int} {f12 : Int} {f13 : Int} {f14 : Int} (h : IsS75 w0 W g f0 f1 f2 f3 f4 f5 f6 f7 f8 f9 f10 f11 f12 f13 f14) : IsS75 w0 W.drew g f0 f1 f2 f3 f4 f5 f6 f7 f8 f9 f10 f11 f12 f13 f14 := h.below (below_drew (Below.refl _ _))
theorem IsS75.rebase {w0 w1 W : World} {g : Nat} {f0 : Int} {f1 : Int} {f2 : Int} {f3 : Int} {f4 : Int} {f5 : Int} {f6 : Int} {f7 : Int} {f8 : Int} {f9 : Int} {f10 : Int} {f11 : Int} {f12 : Int} {f13 : Int} {f14 : Int} (h : IsS75 w1 W g f0 f1 f2 f3 f4 f5 f6 f7 f8 f9 f10 f11 f12 f13 f14) (hle : w0.heap.size ≤ w1.heap.size) : IsS75 w0 W g f0 f1 f2 f3 f4 f5 f6 f7 f8 f9 f10 f11 f12 f13 f14 := by
 rcases h with ⟨e, m, h1, h2, h3, h4⟩ | ⟨e, m, c, h1, h2, h3, h4, h5, h6⟩
 ·exact .inl ⟨e, m, h1, Nat.le_trans hle h2, h3, Nat.le_trans hle h4⟩
 ·exact .inr ⟨e, m, c, h1, Nat.le_trans hle h2, h3, Nat.le_trans hle h4, h5, Nat.le_trans hle h6⟩
section
variable {w0 w W W1 : World} {g m c : Nat} {f0 f1 f2 : Int} {cs : Array Value}
theorem P1.ne_gc (h : P1 w0 W g m c f0 f1 f2 cs) : g ≠ c := by
 rintro rfl
 have h1 := h.1; have h5 := h.2.2.2.2.1
 rw [h1] at h5
 injection h5 with h5
 injection h5 with _ h5
 exact absurd h5 (by decide)
theorem P1.ne_gm (h : P1 w0 W g m c f0 f1 f2 cs) : g ≠ m := by
 rintro rfl
 obtain ⟨e, cl, h3⟩ := h.2.2.1
 have h1 := h.1
 rw [h1] at h3
 injection h3 with h3
 cases h3
theorem P1.ne_cm (h : P1 w0 W g m c f0 f1 f2 cs) : c ≠ m := by
 rintro rfl
 obtain ⟨e, cl, h3⟩ := h.2.2.1
 have h1 := h.2.2.2.2.1
 rw [h1] at h3
 injection h3 with h3
 cases h3
theorem P0.ne_gm (h : P0 w0 W g m f0 f1 f2) : g ≠ m := by
 rintro rfl
 obtain ⟨cl, h3⟩ := h.2.2.1
 have h1 := h.1
 rw [h1] at h3
 injection h3 with h3
 cases h3
def PF (w0 w W : World) (g m c : Nat) (f0 f1 f2 : Int) (cs : Array Value) : Prop := P1 w0 W g m c f0 f1 f2 cs ∧ Below w0.heap.size w0 W ∧ KeepT w W
theorem PF.below (h : PF w0 w W g m c f0 f1 f2 cs) (hb : Below W.heap.size W W1) : PF w0 w W1 g m c f0 f1 f2 cs := ⟨h.1.below hb, below_step h.2.1 hb, h.2.2.below hb⟩
theorem PF.drew (h : PF w0 w W g m c f0 f1 f2 cs) : PF w0 w W.drew g m c f0 f1 f2 cs := h.below (below_drew (Below.refl _ _))
theorem PF.setc (h : PF w0 w W g m c f0 f1 f2 cs) (i : Nat) (u : Value) : PF w0 w (W.setCell ⟨c, i, none⟩ u) g m c f0 f1 f2 (cs.setIfInBounds i u) := by
 obtain ⟨h0, hb, hk⟩ := h
 have n1 := h0.ne_gc; have n2 := h0.ne_cm
 obtain ⟨h1, h2, ⟨e, cl, h3⟩, h4, h5, h6⟩ := h0
 exact ⟨⟨blk_far h1 n1 u, h2, ⟨e, cl, (Below.heap_setCell W ⟨c, i, none⟩ u m (fun e => n2 e.symm)).trans h3⟩, h4, blk_set h5 i u, h6⟩, below_set hb h6, hk.set h5 (.inr rfl)⟩
theorem PF.setg0 (h : PF w0 w W g m c f0 f1 f2 cs) (x : Int) : PF w0 w (W.setCell ⟨g, 1, none⟩ (.int .i64 x)) g m c x f1 f2 cs := by
 obtain ⟨h0, hb, hk⟩ := h
 have n1 := h0.ne_gc; have n2 := h0.ne_gm
 obtain ⟨h1, h2, ⟨e, cl, h3⟩, h4, h5, h6⟩ := h0
 exact ⟨⟨by simpa using blk_set h1 1 (.int .i64 x), h2, ⟨e, cl, (Below.heap_setCell W ⟨g, 1, none⟩ _ m (fun e => n2 e.symm)).trans h3⟩, h4, blk_far h5 (fun e => n1 e.symm) _, h6⟩, below_set hb h2, hk.set h1 (.inl rfl)⟩
theorem PF.setg1 (h : PF w0 w W g m c f0 f1 f2 cs) (x : Int) : PF w0 w (W.setCell ⟨g, 2, none⟩ (.int .i64 x)) g m c f0 x f2 cs := by
 obtain ⟨h0, hb, hk⟩ := h
 have n1 := h0.ne_gc; have n2 := h0.ne_gm
 obtain ⟨h1, h2, ⟨e, cl, h3⟩, h4, h5, h6⟩ := h0
 exact ⟨⟨by simpa using blk_set h1 2 (.int .i64 x), h2, ⟨e, cl, (Below.heap_setCell W ⟨g, 2, none⟩ _ m (fun e => n2 e.symm)).trans h3⟩, h4, blk_far h5 (fun e => n1 e.symm) _, h6⟩, below_set hb h2, hk.set h1 (.inl rfl)⟩
theorem PF.setg2 (h : PF w0 w W g m c f0 f1 f2 cs) (x : Int) : PF w0 w (W.setCell ⟨g, 3, none⟩ (.int .i64 x)) g m c f0 f1 x cs := by
 obtain ⟨h0, hb, hk⟩ := h
 have n1 := h0.ne_gc; have n2 := h0.ne_gm
 obtain ⟨h1, h2, ⟨e, cl, h3⟩, h4, h5, h6⟩ := h0
 exact ⟨⟨by simpa using blk_set h1 3 (.int .i64 x), h2, ⟨e, cl, (Below.heap_setCell W ⟨g, 3, none⟩ _ m (fun e => n2 e.symm)).trans h3⟩, h4, blk_far h5 (fun e => n1 e.symm) _, h6⟩, below_set hb h2, hk.set h1 (.inl rfl)⟩
def PF0 (w0 w W : World) (g m : Nat) (f0 f1 f2 : Int) : Prop := P0 w0 W g m f0 f1 f2 ∧ Below w0.heap.size w0 W ∧ KeepT w W
theorem PF0.below (h : PF0 w0 w W g m f0 f1 f2) (hb : Below W.heap.size W W1) : PF0 w0 w W1 g m f0 f1 f2 := ⟨h.1.below hb, below_step h.2.1 hb, h.2.2.below hb⟩
theorem PF0.drew (h : PF0 w0 w W g m f0 f1 f2) : PF0 w0 w W.drew g m f0 f1 f2 := h.below (below_drew (Below.refl _ _))
theorem PF0.setg0 (h : PF0 w0 w W g m f0 f1 f2) (x : Int) : PF0 w0 w (W.setCell ⟨g, 1, none⟩ (.int .i64 x)) g m x f1 f2 := by
 obtain ⟨h0, hb, hk⟩ := h
 have n2 := h0.ne_gm
 obtain ⟨h1, h2, ⟨cl, h3⟩, h4⟩ := h0
 exact ⟨⟨by simpa using blk_set h1 1 (.int .i64 x), h2, ⟨cl, (Below.heap_setCell W ⟨g, 1, none⟩ _ m (fun e => n2 e.symm)).trans h3⟩, h4⟩, below_set hb h2, hk.set h1 (.inl rfl)⟩
def putm (w : World) (b : Nat) (o : Obj) : World := { w with heap := w.heap.setIfInBounds b o }
theorem putm_same {es : Array MapEntry} {cl : Nat} (hm : W.heap[m]? = some (.map es cl)) (o : Obj) : (putm W m o).heap[m]? = some o := (Go.MapKept.heap_set hm).1
theorem putm_other {es : Array MapEntry} {cl : Nat} (hm : W.heap[m]? = some (.map es cl)) (o : Obj) {i : Nat} (h : i ≠ m) : (putm W m o).heap[i]? = W.heap[i]? := (Go.MapKept.heap_set hm).2 i h
theorem putm_below {es : Array MapEntry} {cl : Nat} (hm : W.heap[m]? = some (.map es cl)) (o : Obj) (hb : Below w0.heap.size w0 W) (h0 : w0.heap.size ≤ m) : Below w0.heap.size w0 (putm W m o) :=
  ⟨hb.os, hb.tape, hb.output, by have : (putm W m o).heap.size = W.heap.size := by simp [putm]
                                 rw [this]; exact hb.size, fun k hk => (putm_other hm o (by omega)).trans (hb.block k hk)⟩
theorem putm_keep {es es' : Array MapEntry} {cl cl' : Nat} (hm : W.heap[m]? = some (.map es cl)) (hk : KeepT w W) : KeepT w (putm W m (.map es' cl')) :=
  ⟨by have : (putm W m (.map es' cl')).heap.size = W.heap.size := by simp [putm]
      rw [this]; exact hk.1, fun i cs t fr hi h1 h2 => by
    have hh := hk.2 i cs t fr hi h1 h2
    rw [putm_other hm _ (fun e => by subst e; rw [hm] at hh; injection hh with hh; cases hh)]
    exact hh⟩
theorem PF0.put {cl : Nat} (h : PF0 w0 w W g m f0 f1 f2) (hm : W.heap[m]? = some (.map #[] cl)) (hc : W.heap[c]? = some (.cells cs 78 (0, 0))) (hc0 : w0.heap.size ≤ c) :
  PF w0 w (putm W m (.map #[{ key := .int .i64 1, val := .pointer (some ⟨c, 0, none⟩), born := cl }] (cl + 1))) g m c f0 f1 f2 cs := by
 obtain ⟨h0, hb, hk⟩ := h
 have n2 := h0.ne_gm
 obtain ⟨h1, h2, h3, h4⟩ := h0
 have n3 : c ≠ m := fun e => by subst e; rw [hm] at hc; injection hc with hc; cases hc
 exact ⟨⟨(putm_other hm _ n2).trans h1, h2, ⟨_, _, putm_same hm _⟩, h4, (putm_other hm _ n3).trans hc, hc0⟩, putm_below hm _ hb h4, putm_keep hm hk⟩
theorem PF.same {e cl : Nat} (h : PF w0 w W g m c f0 f1 f2 cs) (hm : W.heap[m]? = some (.map #[{ key := .int .i64 1, val := .pointer (some ⟨c, 0, none⟩), born := e }] cl)) :
  PF w0 w (putm W m (.map #[{ key := .int .i64 1, val := .pointer (some ⟨c, 0, none⟩), born := e }] cl)) g m c f0 f1 f2 cs := by
 obtain ⟨h0, hb, hk⟩ := h
 have n1 := h0.ne_gm; have n2 := h0.ne_cm
 obtain ⟨h1, h2, h3, h4, h5, h6⟩ := h0
 exact ⟨⟨(putm_other hm _ n1).trans h1, h2, ⟨_, _, putm_same hm _⟩, h4, (putm_other hm _ n2).trans h5, h6⟩, putm_below hm _ hb h4, putm_keep hm hk⟩
theorem find_one {k : Int} {v : Value} {b : Nat} (h : k = 1) : Instr.findNow (.int .i64) (.int .i64 k) [{ key := .int .i64 1, val := v, born := b }] 0 = some (some (0, v)) := by
 subst h; rfl
theorem find_other {k : Int} {v : Value} {b : Nat} (h : k ≠ 1) : Instr.findNow (.int .i64) (.int .i64 k) [{ key := .int .i64 1, val := v, born := b }] 0 = some none := by
 have hk : (k == (1 : Int)) = false := by simpa using h
 simp [Instr.findNow, Instr.sameNow, hk]
open Go.MapKept Go.ChangeMaps in
theorem put_run {v : Value} {cl : Nat} (hm : W.heap[m]? = some (.map #[] cl)) :
  (Instr.mapUpdate 73 (.map (some m)) (.int .i64 1) v).run Try.prog W = .ok () (putm W m (.map #[{ key := .int .i64 1, val := v, born := cl }] (cl + 1))) := by
 simp [Instr.mapUpdate, run_underlying Try.underlying73, MapKept.run_getObj_map hm, run_checkKey Try.underlying3 (show IsKey (.int .i64) (.int .i64 1) from by simp [IsKey]), run_findKey Try.underlying3 (show Instr.findNow (.int .i64) (.int .i64 1) [] 0 = some none from rfl), MapKept.run_setObj_map _ hm, Result.andThen, putm]
open Go.MapKept Go.ChangeMaps in
theorem del_run {v : Value} {k : Int} {e cl : Nat} {ty : TypeId} (hm : W.heap[m]? = some (.map #[{ key := .int .i64 1, val := v, born := e }] cl)) (h : k ≠ 1) :
  (Builtin.delete_ #[73, 3] ty #[.map (some m), .int .i64 k]).run Try.prog W = .ok (.tuple #[]) (putm W m (.map #[{ key := .int .i64 1, val := v, born := e }] cl)) := by
 simp [Builtin.delete_, run_underlying Try.underlying73, MapKept.run_getObj_map hm, run_checkKey Try.underlying3 (show IsKey (.int .i64) (.int .i64 k) from by simp [IsKey]), run_findKey Try.underlying3 (find_other h), MapKept.run_setObj_map _ hm, Result.andThen, putm]
open Go.MapKept Go.ChangeMaps in
theorem look_one {k : Int} {b : Bool} {e cl : Nat} (hm : W.heap[m]? = some (.map #[{ key := .int .i64 1, val := .pointer (some ⟨c, 0, none⟩), born := e }] cl)) (h : k = 1) :
  (Instr.lookup 73 (.map (some m)) (.int .i64 k) b).run Try.prog W = .ok (if b then .tuple #[.pointer (some ⟨c, 0, none⟩), .bool true] else .pointer (some ⟨c, 0, none⟩)) W := by
 simp [Instr.lookup, run_underlying Try.underlying73, MapKept.run_getObj_map hm, run_checkKey Try.underlying3 (show IsKey (.int .i64) (.int .i64 k) from by simp [IsKey]), run_findKey Try.underlying3 (find_one h), Result.andThen]
theorem look_t {k : Int} {e cl : Nat} (hm : W.heap[m]? = some (.map #[{ key := .int .i64 1, val := .pointer (some ⟨c, 0, none⟩), born := e }] cl)) (h : k = 1) :
  (Instr.lookup 73 (.map (some m)) (.int .i64 k) true).run Try.prog W = .ok (.tuple #[.pointer (some ⟨c, 0, none⟩), .bool true]) W := look_one (b := true) hm h
theorem look_f {k : Int} {e cl : Nat} (hm : W.heap[m]? = some (.map #[{ key := .int .i64 1, val := .pointer (some ⟨c, 0, none⟩), born := e }] cl)) (h : k = 1) :
  (Instr.lookup 73 (.map (some m)) (.int .i64 k) false).run Try.prog W = .ok (.pointer (some ⟨c, 0, none⟩)) W := look_one (b := false) hm h
open Go.MapKept Go.ChangeMaps in
theorem look_other {k : Int} {e cl : Nat} (hm : W.heap[m]? = some (.map #[{ key := .int .i64 1, val := .pointer (some ⟨c, 0, none⟩), born := e }] cl)) (h : k ≠ 1) :
  (Instr.lookup 73 (.map (some m)) (.int .i64 k) true).run Try.prog W = .ok (.tuple #[.pointer none, .bool false]) W := by
 simp [Instr.lookup, run_underlying Try.underlying73, MapKept.run_getObj_map hm, run_checkKey Try.underlying3 (show IsKey (.int .i64) (.int .i64 k) from by simp [IsKey]), run_findKey Try.underlying3 (find_other h), Result.andThen, show ∀ W_, (zeroValue 76).run Try.prog W_ = .ok (.pointer none) W_ from fun _ => by kernel_rfl]
end
def probe_New.f : Option (Int × Int × Int × Int × Int × Int × Int × Int × Int × Int × Int × Int × Int × Int × Int) := some (0, 0, 0, 0, 0, 0, 0, 0, 0, 0, 0, 0, 0, 0, 0)
set_option maxHeartbeats 8000000 in
set_option maxRecDepth 100000 in
theorem probe_New.calls (r1 : Int) (r2 : Int) (r3 : Int) (r4 : Int) (r5 : Int) (r6 : Int) (r7 : Int) (r8 : Int) (r9 : Int) (r10 : Int) (r11 : Int) (r12 : Int) (r13 : Int) (r14 : Int) (r15 : Int) (w0 w : World) (hB : Below w0.heap.size w0 w) (h : probe_New.f = some (r1, r2, r3, r4, r5, r6, r7, r8, r9, r10, r11, r12, r13, r14, r15)) :
  Calls Try.prog 21 #[] w fun e w' => ∃ g_ : Nat, e = .returned (.pointer (some ⟨g_, 0, none⟩)) ∧ IsS75 w0 w' g_ r1 r2 r3 r4 r5 r6 r7 r8 r9 r10 r11 r12 r13 r14 r15 ∧ Below w0.heap.size w0 w' ∧ Below w.heap.size w w' := by
 have hu75 := Try.underlying75
 simp only [probe_New.f] at h
 simp only [Option.some.injEq, Prod.mk.injEq] at h
 obtain ⟨rfl, rfl, rfl, rfl, rfl, rfl, rfl, rfl, rfl, rfl, rfl, rfl, rfl, rfl, rfl⟩ := h
 have hmk : ∀ W_ : World, (Instr.makeMap 73 none).run Try.prog W_ = .ok (.map (some W_.heap.size)) (W_.alloc (.map #[] 0)) := fun W_ => by rfl
 have hm1 := heap_alloc_new w (.map #[] 0)
 have hb1 := below_alloc hB (.map #[] 0)
 have hb2 := below_alloc (Below.refl w.heap.size w) (.map #[] 0)
 have hs1 := hB.size
 go_enter Try.func21, Try.ntmps21
 go_wp2
 have hz : (w.alloc (.map #[] 0)).heap.size = w.heap.size + 1 := by rw [World.size_alloc]
 have hN := blk_new (w.alloc (.map #[] 0)) (.cells #[.map (some w.heap.size), .int .i64 0, .int .i64 0, .int .i64 0] 75)
 rw [hz] at hN
 go_ret
 exact ⟨w.heap.size + 1, rfl, .inl ⟨rfl, w.heap.size, hN, by omega, ⟨0, blk_alloc hm1 _⟩, hs1⟩, below_alloc hb1 _, below_alloc hb2 _⟩
def flywheelkeep_Mod64.f (a0 : Int) (a1 : Int) : Option (Int) := if a1 < 1 then (some 0) else (if a1 = 0 then (none) else (some (Int.tmod (wrap64 ((Int.tmod a0 a1) + a1)) a1)))
set_option maxHeartbeats 8000000 in
set_option maxRecDepth 100000 in
theorem flywheelkeep_Mod64.calls (a0 : Int) (a1 : Int) (r : Int) (w : World) (h : flywheelkeep_Mod64.f a0 a1 = some r) :
  Calls Try.prog 22 #[.int .i64 a0, .int .i64 a1] w fun e w' => e = .returned (.int .i64 r) ∧ Drawn0 w w' := by
 have H : (if a1 < 1 then (some 0) else (if a1 = 0 then (none) else (some (Int.tmod (wrap64 ((Int.tmod a0 a1) + a1)) a1)))) = some r := h
 clear h
 by_cases c3 : a1 < 1
 ·rw [if_pos c3] at H
  have c3b0 : decide (a1 < 1) = true := decide_eq_true c3
  clear c3
  obtain rfl := Option.some.inj H
  go_enter Try.func22, Try.ntmps22
  go_wp2
  go_ret
  exact ⟨by first | rfl | (simp; done) | (simp [*]; done), by repeat (first | exact Drawn0.refl _ | apply Drawn0.step)⟩
 ·rw [if_neg c3] at H
  have c3b0 : decide (a1 < 1) = false := decide_eq_false c3
  clear c3
  by_cases c4 : a1 = 0
  ·rw [if_pos c4] at H
   exact absurd H (by simp)
  ·rw [if_neg c4] at H
   have c4b0 : (a1 == 0) = false := beq_eq_false_iff_ne.mpr c4
   have c4b1 : (a1 != 0) = true := bne_iff_ne.mpr c4
   obtain rfl := Option.some.inj H
   go_enter Try.func22, Try.ntmps22
   go_wp2
   go_ret
   exact ⟨by first | rfl | (simp; done) | (simp [*]; done), by repeat (first | exact Drawn0.refl _ | apply Drawn0.step)⟩
def bits_Mul64.f (a0 : Int) (a1 : Int) : Option (Int × Int) := some (IntKind.u64.wrap ((IntKind.u64.wrap ((IntKind.u64.wrap ((a0 / 4294967296) * (a1 / 4294967296))) + ((IntKind.u64.wrap ((IntKind.u64.wrap ((a0 / 4294967296) * (Go.bits .and .u64 a1 4294967295))) + ((IntKind.u64.wrap ((Go.bits .and .u64 a0 4294967295) * (Go.bits .and .u64 a1 4294967295))) / 4294967296))) / 4294967296))) + ((IntKind.u64.wrap ((Go.bits .and .u64 (IntKind.u64.wrap ((IntKind.u64.wrap ((a0 / 4294967296) * (Go.bits .and .u64 a1 4294967295))) + ((IntKind.u64.wrap ((Go.bits .and .u64 a0 4294967295) * (Go.bits .and .u64 a1 4294967295))) / 4294967296))) 4294967295) + (IntKind.u64.wrap ((Go.bits .and .u64 a0 4294967295) * (a1 / 4294967296))))) / 4294967296)), IntKind.u64.wrap (a0 * a1))
set_option maxHeartbeats 8000000 in
set_option maxRecDepth 100000 in
theorem bits_Mul64.calls (a0 : Int) (a1 : Int) (r1 : Int) (r2 : Int) (w : World) (h : bits_Mul64.f a0 a1 = some (r1, r2)) :
  Calls Try.prog 60 #[.int .u64 a0, .int .u64 a1] w fun e w' => e = .returned (.tuple #[.int .u64 r1, .int .u64 r2]) ∧ Drawn0 w w' := by
 have H : (some (IntKind.u64.wrap ((IntKind.u64.wrap ((IntKind.u64.wrap ((a0 / 4294967296) * (a1 / 4294967296))) + ((IntKind.u64.wrap ((IntKind.u64.wrap ((a0 / 4294967296) * (Go.bits .and .u64 a1 4294967295))) + ((IntKind.u64.wrap ((Go.bits .and .u64 a0 4294967295) * (Go.bits .and .u64 a1 4294967295))) / 4294967296))) / 4294967296))) + ((IntKind.u64.wrap ((Go.bits .and .u64 (IntKind.u64.wrap ((IntKind.u64.wrap ((a0 / 4294967296) * (Go.bits .and .u64 a1 4294967295))) + ((IntKind.u64.wrap ((Go.bits .and .u64 a0 4294967295) * (Go.bits .and .u64 a1 4294967295))) / 4294967296))) 4294967295) + (IntKind.u64.wrap ((Go.bits .and .u64 a0 4294967295) * (a1 / 4294967296))))) / 4294967296)), IntKind.u64.wrap (a0 * a1))) = some (r1, r2) := h
 clear h
 simp only [Option.some.injEq, Prod.mk.injEq] at H
 obtain ⟨rfl, rfl⟩ := H
 go_enter Try.func60, Try.ntmps60
 go_wp2
 go_ret2
 exact ⟨by first | rfl | (simp; done) | (simp [*]; done), by repeat (first | exact Drawn0.refl _ | apply Drawn0.step)⟩
def muldiv_size.f (a0 : Int) : Option (Int) := if a0 < 0 then (some (IntKind.u64.wrap (-(IntKind.u64.wrap (a0))))) else (some (IntKind.u64.wrap (a0)))
set_option maxHeartbeats 8000000 in
set_option maxRecDepth 100000 in
theorem muldiv_size.calls (a0 : Int) (r : Int) (w : World) (h : muldiv_size.f a0 = some r) :
  Calls Try.prog 61 #[.int .i64 a0] w fun e w' => e = .returned (.int .u64 r) ∧ Drawn0 w w' := by
 have H : (if a0 < 0 then (some (IntKind.u64.wrap (-(IntKind.u64.wrap (a0))))) else (some (IntKind.u64.wrap (a0)))) = some r := h
 clear h
 by_cases c2 : a0 < 0
 ·rw [if_pos c2] at H
  have c2b0 : decide (a0 < 0) = true := decide_eq_true c2
  clear c2
  obtain rfl := Option.some.inj H
  go_enter Try.func61, Try.ntmps61
  go_wp2
  go_ret
  exact ⟨by first | rfl | (simp; done) | (simp [*]; done), by repeat (first | exact Drawn0.refl _ | apply Drawn0.step)⟩
 ·rw [if_neg c2] at H
  have c2b0 : decide (a0 < 0) = false := decide_eq_false c2
  clear c2
  obtain rfl := Option.some.inj H
  go_enter Try.func61, Try.ntmps61
  go_wp2
  go_ret
  exact ⟨by first | rfl | (simp; done) | (simp [*]; done), by repeat (first | exact Drawn0.refl _ | apply Drawn0.step)⟩
def bits_Len64.f (a0 : Int) : Option (Int) := if 0 ≤ a0 ∧ a0 ≤ 18446744073709551615 then some (Lib.bitLen a0.toNat) else none
theorem bits_Len64.calls (a0 : Int) (r : Int) (w : World) (h : bits_Len64.f a0 = some r) :
  Calls Try.prog 67 #[.int .u64 a0] w fun e w' => e = .returned (.int .i64 r) ∧ Drawn0 w w' := by
 unfold bits_Len64.f at h
 split at h
 ·rename_i hb
  obtain rfl := Option.some.inj h
  refine (Try.bits_Len64 a0 w hb.1 hb.2).mono ?_
  rintro e w' ⟨rfl, rfl⟩
  exact ⟨rfl, Drawn0.refl _⟩
 ·cases h
def bits_LeadingZeros64.f (a0 : Int) : Option (Int) := (bits_Len64.f a0).bind fun t101 => (some (wrap64 (64 - t101)))
set_option maxHeartbeats 8000000 in
set_option maxRecDepth 100000 in
theorem bits_LeadingZeros64.calls (a0 : Int) (r : Int) (w : World) (h : bits_LeadingZeros64.f a0 = some r) :
  Calls Try.prog 66 #[.int .u64 a0] w fun e w' => e = .returned (.int .i64 r) ∧ Drawn0 w w' := by
 have H : ((bits_Len64.f a0).bind fun t101 => (some (wrap64 (64 - t101)))) = some r := h
 clear h
 replace H := Option.bind_eq_some_iff.mp H
 obtain ⟨t101, A20, H⟩ := H
 replace H : (some (wrap64 (64 - t101))) = some r := H
 have A2 := Aside0.mk A20
 clear A20
 obtain rfl := Option.some.inj H
 go_enter Try.func66, Try.ntmps66
 go_wp2_with (first | ((with_reducible refine gate_callee (f := 67) rfl ?_); refine goesL_ (some 4) rfl rfl Try.func67 (by kernel_rfl) rfl #[.int .u64 a0] rfl (by (try simp only [List.map_toArray, List.map_cons, List.map_nil]); first | done | rfl | (simp only [List.length_drop, List.length_take]; rfl)) ?_; (with_reducible refine (bits_Len64.calls a0 t101 _ A2.out).mono ?_); rintro e w' ⟨rfl, ⟨nd, rfl⟩⟩; refine ⟨_, rfl, ?_⟩))
 go_ret
 exact ⟨by first | rfl | (simp; done) | (simp [*]; done), by repeat (first | exact Drawn0.refl _ | apply Drawn0.step)⟩
end Go.Proofs.Ytlgfnclgkhfhpaa.P
end

section
namespace Go.Proofs.Ytlgfnclgkhfhpaa.P
open Go.RowKit Go.Proofs.YtlgfnclgkhfhpaaW.PrintWords Go.Proofs.YtlgfnclgkhfhpaaW.PrintLast Go.Proofs.YtlgfnclgkhfhpaaW.PrintMore
attribute [local go_sem] max2_int min2_int max_two min_two max_three min_three max_four min_four   -- for this text's walks alone
set_option linter.unusedVariables false
set_option linter.unusedSimpArgs false
mutual
def bits_Div64.j2 : Nat → Int → Int → Int → Int → Int → Int → Int → Int → Option (Int × Int)
 | 0, _, _, _, _, _, _, _, _ => none
 | k + 1, x2, x8, x9, x10, x11, x13, x14, x15 => if x9 = 0 then (none) else (bits_Div64.l1 k x2 x8 x9 x10 x14 x15 (IntKind.u64.wrap ((IntKind.u64.wrap ((IntKind.u64.wrap ((IntKind.u64.wrap (x11 * 4294967296)) + x13)) - (IntKind.u64.wrap (x15 * x2)))) - (IntKind.u64.wrap ((IntKind.u64.wrap (Int.tdiv (IntKind.u64.wrap ((IntKind.u64.wrap ((IntKind.u64.wrap (x11 * 4294967296)) + x13)) - (IntKind.u64.wrap (x15 * x2)))) x9)) * x9)))) (IntKind.u64.wrap ((IntKind.u64.wrap ((IntKind.u64.wrap (x11 * 4294967296)) + x13)) - (IntKind.u64.wrap (x15 * x2)))) (IntKind.u64.wrap (Int.tdiv (IntKind.u64.wrap ((IntKind.u64.wrap ((IntKind.u64.wrap (x11 * 4294967296)) + x13)) - (IntKind.u64.wrap (x15 * x2)))) x9)))
def bits_Div64.l1 : Nat → Int → Int → Int → Int → Int → Int → Int → Int → Int → Option (Int × Int)
 | 0, _, _, _, _, _, _, _, _, _ => none
 | k + 1, x2, x8, x9, x10, x14, x15, x16, x17, x18 => if x18 ≥ 4294967296 then (bits_Div64.j4 k x2 x8 x9 x10 x14 x15 x16 x17 x18 true) else (bits_Div64.j4 k x2 x8 x9 x10 x14 x15 x16 x17 x18 (decide ((IntKind.u64.wrap (x18 * x10)) > (IntKind.u64.wrap ((IntKind.u64.wrap (4294967296 * x16)) + x14)))))
def bits_Div64.j4 : Nat → Int → Int → Int → Int → Int → Int → Int → Int → Int → Bool → Option (Int × Int)
 | 0, _, _, _, _, _, _, _, _, _, _ => none
 | k + 1, x2, x8, x9, x10, x14, x15, x16, x17, x18, x113 => if x113 = true then (if (IntKind.u64.wrap (x16 + x9)) ≥ 4294967296 then (if 0 ≤ x8 then (some (IntKind.u64.wrap ((IntKind.u64.wrap (x15 * 4294967296)) + (IntKind.u64.wrap (x18 - 1))), shr .u64 (IntKind.u64.wrap ((IntKind.u64.wrap ((IntKind.u64.wrap (x17 * 4294967296)) + x14)) - (IntKind.u64.wrap ((IntKind.u64.wrap (x18 - 1)) * x2)))) x8)) else (none)) else (bits_Div64.l1 k x2 x8 x9 x10 x14 x15 (IntKind.u64.wrap (x16 + x9)) x17 (IntKind.u64.wrap (x18 - 1)))) else (if 0 ≤ x8 then (some (IntKind.u64.wrap ((IntKind.u64.wrap (x15 * 4294967296)) + x18), shr .u64 (IntKind.u64.wrap ((IntKind.u64.wrap ((IntKind.u64.wrap (x17 * 4294967296)) + x14)) - (IntKind.u64.wrap (x18 * x2)))) x8)) else (none))
def bits_Div64.l0 : Nat → Int → Int → Int → Int → Int → Int → Int → Int → Int → Option (Int × Int)
 | 0, _, _, _, _, _, _, _, _, _ => none
 | k + 1, x2, x8, x9, x10, x11, x13, x14, x15, x16 => if x15 ≥ 4294967296 then (bits_Div64.j1 k x2 x8 x9 x10 x11 x13 x14 x15 x16 true) else (bits_Div64.j1 k x2 x8 x9 x10 x11 x13 x14 x15 x16 (decide ((IntKind.u64.wrap (x15 * x10)) > (IntKind.u64.wrap ((IntKind.u64.wrap (4294967296 * x16)) + x13)))))
def bits_Div64.j1 : Nat → Int → Int → Int → Int → Int → Int → Int → Int → Int → Bool → Option (Int × Int)
 | 0, _, _, _, _, _, _, _, _, _, _ => none
 | k + 1, x2, x8, x9, x10, x11, x13, x14, x15, x16, x78 => if x78 = true then (if (IntKind.u64.wrap (x16 + x9)) ≥ 4294967296 then (bits_Div64.j2 k x2 x8 x9 x10 x11 x13 x14 (IntKind.u64.wrap (x15 - 1))) else (bits_Div64.l0 k x2 x8 x9 x10 x11 x13 x14 (IntKind.u64.wrap (x15 - 1)) (IntKind.u64.wrap (x16 + x9)))) else (bits_Div64.j2 k x2 x8 x9 x10 x11 x13 x14 x15)
end
def bits_Div64.f (k : Nat) (a0 : Int) (a1 : Int) (a2 : Int) : Option (Int × Int) := if a2 = 0 then (none) else (if a2 ≤ a0 then (none) else (if a0 = 0 then (some (IntKind.u64.wrap (Int.tdiv a1 a2), Int.tmod a1 a2)) else ((bits_LeadingZeros64.f a2).bind fun t102 => (if 0 ≤ (IntKind.u64.wrap (t102)) then (if 0 ≤ (IntKind.u64.wrap (64 - (IntKind.u64.wrap (t102)))) then (if ((shl .u64 a2 (IntKind.u64.wrap (t102))) / 4294967296) = 0 then (none) else (bits_Div64.l0 k (shl .u64 a2 (IntKind.u64.wrap (t102))) (IntKind.u64.wrap (t102)) ((shl .u64 a2 (IntKind.u64.wrap (t102))) / 4294967296) (Go.bits .and .u64 (shl .u64 a2 (IntKind.u64.wrap (t102))) 4294967295) (Go.bits .or .u64 (shl .u64 a0 (IntKind.u64.wrap (t102))) (shr .u64 a1 (IntKind.u64.wrap (64 - (IntKind.u64.wrap (t102)))))) ((shl .u64 a1 (IntKind.u64.wrap (t102))) / 4294967296) (Go.bits .and .u64 (shl .u64 a1 (IntKind.u64.wrap (t102))) 4294967295) (IntKind.u64.wrap (Int.tdiv (Go.bits .or .u64 (shl .u64 a0 (IntKind.u64.wrap (t102))) (shr .u64 a1 (IntKind.u64.wrap (64 - (IntKind.u64.wrap (t102)))))) ((shl .u64 a2 (IntKind.u64.wrap (t102))) / 4294967296))) (IntKind.u64.wrap ((Go.bits .or .u64 (shl .u64 a0 (IntKind.u64.wrap (t102))) (shr .u64 a1 (IntKind.u64.wrap (64 - (IntKind.u64.wrap (t102)))))) - (IntKind.u64.wrap ((IntKind.u64.wrap (Int.tdiv (Go.bits .or .u64 (shl .u64 a0 (IntKind.u64.wrap (t102))) (shr .u64 a1 (IntKind.u64.wrap (64 - (IntKind.u64.wrap (t102)))))) ((shl .u64 a2 (IntKind.u64.wrap (t102))) / 4294967296))) * ((shl .u64 a2 (IntKind.u64.wrap (t102))) / 4294967296))))))) else (none)) else (none)))))
set_option maxHeartbeats 8000000 in
set_option maxRecDepth 100000 in
theorem bits_Div64.calls (k : Nat) (a0 : Int) (a1 : Int) (a2 : Int) (r1 : Int) (r2 : Int) (w : World) (h : bits_Div64.f k a0 a1 a2 = some (r1, r2)) :
  Calls Try.prog 65 #[.int .u64 a0, .int .u64 a1, .int .u64 a2] w fun e w' => e = .returned (.tuple #[.int .u64 r1, .int .u64 r2]) ∧ Drawn0 w w' := by
 have H : (if a2 = 0 then (none) else (if a2 ≤ a0 then (none) else (if a0 = 0 then (some (IntKind.u64.wrap (Int.tdiv a1 a2), Int.tmod a1 a2)) else ((bits_LeadingZeros64.f a2).bind fun t102 => (if 0 ≤ (IntKind.u64.wrap (t102)) then (if 0 ≤ (IntKind.u64.wrap (64 - (IntKind.u64.wrap (t102)))) then (if ((shl .u64 a2 (IntKind.u64.wrap (t102))) / 4294967296) = 0 then (none) else (bits_Div64.l0 k (shl .u64 a2 (IntKind.u64.wrap (t102))) (IntKind.u64.wrap (t102)) ((shl .u64 a2 (IntKind.u64.wrap (t102))) / 4294967296) (Go.bits .and .u64 (shl .u64 a2 (IntKind.u64.wrap (t102))) 4294967295) (Go.bits .or .u64 (shl .u64 a0 (IntKind.u64.wrap (t102))) (shr .u64 a1 (IntKind.u64.wrap (64 - (IntKind.u64.wrap (t102)))))) ((shl .u64 a1 (IntKind.u64.wrap (t102))) / 4294967296) (Go.bits .and .u64 (shl .u64 a1 (IntKind.u64.wrap (t102))) 4294967295) (IntKind.u64.wrap (Int.tdiv (Go.bits .or .u64 (shl .u64 a0 (IntKind.u64.wrap (t102))) (shr .u64 a1 (IntKind.u64.wrap (64 - (IntKind.u64.wrap (t102)))))) ((shl .u64 a2 (IntKind.u64.wrap (t102))) / 4294967296))) (IntKind.u64.wrap ((Go.bits .or .u64 (shl .u64 a0 (IntKind.u64.wrap (t102))) (shr .u64 a1 (IntKind.u64.wrap (64 - (IntKind.u64.wrap (t102)))))) - (IntKind.u64.wrap ((IntKind.u64.wrap (Int.tdiv (Go.bits .or .u64 (shl .u64 a0 (IntKind.u64.wrap (t102))) (shr .u64 a1 (IntKind.u64.wrap (64 - (IntKind.u64.wrap (t102)))))) ((shl .u64 a2 (IntKind.u64.wrap (t102))) / 4294967296))) * ((shl .u64 a2 (IntKind.u64.wrap (t102))) / 4294967296))))))) else (none)) else (none)))))) = some (r1, r2) := h
 clear h
 by_cases c4 : a2 = 0
 ·rw [if_pos c4] at H
  exact absurd H (by simp)
 ·rw [if_neg c4] at H
  have c4b0 : (a2 == 0) = false := beq_eq_false_iff_ne.mpr c4
  have c4b1 : (a2 != 0) = true := bne_iff_ne.mpr c4
  by_cases c5 : a2 ≤ a0
  ·rw [if_pos c5] at H
   exact absurd H (by simp)
  ·rw [if_neg c5] at H
   have c5b0 : decide (a2 ≤ a0) = false := decide_eq_false c5
   clear c5
   by_cases c6 : a0 = 0
   ·rw [if_pos c6] at H
    have c6b0 : (a0 == 0) = true := beq_iff_eq.mpr c6
    have c6b1 : (a0 != 0) = false := bne_eq_false_iff_eq.mpr c6
    clear c6
    simp only [Option.some.injEq, Prod.mk.injEq] at H
    obtain ⟨rfl, rfl⟩ := H
    go_enter Try.func65, Try.ntmps65
    go_wp2
    repeat (go_quiet (fail); try go_wp2)
    go_ret2
    exact ⟨by first | rfl | (simp; done) | (simp [*]; done), by repeat (first | exact Drawn0.refl _ | apply Drawn0.step)⟩
   ·rw [if_neg c6] at H
    have c6b0 : (a0 == 0) = false := beq_eq_false_iff_ne.mpr c6
    have c6b1 : (a0 != 0) = true := bne_iff_ne.mpr c6
    replace H := Option.bind_eq_some_iff.mp H
    obtain ⟨t102, A70, H⟩ := H
    replace H : (if 0 ≤ (IntKind.u64.wrap (t102)) then (if 0 ≤ (IntKind.u64.wrap (64 - (IntKind.u64.wrap (t102)))) then (if ((shl .u64 a2 (IntKind.u64.wrap (t102))) / 4294967296) = 0 then (none) else (bits_Div64.l0 k (shl .u64 a2 (IntKind.u64.wrap (t102))) (IntKind.u64.wrap (t102)) ((shl .u64 a2 (IntKind.u64.wrap (t102))) / 4294967296) (Go.bits .and .u64 (shl .u64 a2 (IntKind.u64.wrap (t102))) 4294967295) (Go.bits .or .u64 (shl .u64 a0 (IntKind.u64.wrap (t102))) (shr .u64 a1 (IntKind.u64.wrap (64 - (IntKind.u64.wrap (t102)))))) ((shl .u64 a1 (IntKind.u64.wrap (t102))) / 4294967296) (Go.bits .and .u64 (shl .u64 a1 (IntKind.u64.wrap (t102))) 4294967295) (IntKind.u64.wrap (Int.tdiv (Go.bits .or .u64 (shl .u64 a0 (IntKind.u64.wrap (t102))) (shr .u64 a1 (IntKind.u64.wrap (64 - (IntKind.u64.wrap (t102)))))) ((shl .u64 a2 (IntKind.u64.wrap (t102))) / 4294967296))) (IntKind.u64.wrap ((Go.bits .or .u64 (shl .u64 a0 (IntKind.u64.wrap (t102))) (shr .u64 a1 (IntKind.u64.wrap (64 - (IntKind.u64.wrap (t102)))))) - (IntKind.u64.wrap ((IntKind.u64.wrap (Int.tdiv (Go.bits .or .u64 (shl .u64 a0 (IntKind.u64.wrap (t102))) (shr .u64 a1 (IntKind.u64.wrap (64 - (IntKind.u64.wrap (t102)))))) ((shl .u64 a2 (IntKind.u64.wrap (t102))) / 4294967296))) * ((shl .u64 a2 (IntKind.u64.wrap (t102))) / 4294967296))))))) else (none)) else (none)) = some (r1, r2) := H
    have A7 := Aside0.mk A70
    clear A70
    obtain ⟨ji8, hji8⟩ : ∃ j_ : Int, (IntKind.u64.wrap (t102)) = j_ := ⟨_, rfl⟩
    replace H : (if 0 ≤ (ji8) then (if 0 ≤ (IntKind.u64.wrap (64 - (ji8))) then (if ((shl .u64 a2 (ji8)) / 4294967296) = 0 then (none) else (bits_Div64.l0 k (shl .u64 a2 (ji8)) ji8 ((shl .u64 a2 (ji8)) / 4294967296) (Go.bits .and .u64 (shl .u64 a2 (ji8)) 4294967295) (Go.bits .or .u64 (shl .u64 a0 (ji8)) (shr .u64 a1 (IntKind.u64.wrap (64 - (ji8))))) ((shl .u64 a1 (ji8)) / 4294967296) (Go.bits .and .u64 (shl .u64 a1 (ji8)) 4294967295) (IntKind.u64.wrap (Int.tdiv (Go.bits .or .u64 (shl .u64 a0 (ji8)) (shr .u64 a1 (IntKind.u64.wrap (64 - (ji8))))) ((shl .u64 a2 (ji8)) / 4294967296))) (IntKind.u64.wrap ((Go.bits .or .u64 (shl .u64 a0 (ji8)) (shr .u64 a1 (IntKind.u64.wrap (64 - (ji8))))) - (IntKind.u64.wrap ((IntKind.u64.wrap (Int.tdiv (Go.bits .or .u64 (shl .u64 a0 (ji8)) (shr .u64 a1 (IntKind.u64.wrap (64 - (ji8))))) ((shl .u64 a2 (ji8)) / 4294967296))) * ((shl .u64 a2 (ji8)) / 4294967296))))))) else (none)) else (none)) = some (r1, r2) := by first | (rw [hji8] at H; exact H) | (simp only [hji8] at H ⊢; exact H)
    (try rw [hji8] at A7)
    by_cases c9 : 0 ≤ (ji8)
    ·rw [if_pos c9] at H
     have c9b0 := eq_true c9
     have c9b1 : decide (0 ≤ (ji8)) = true := decide_eq_true c9
     clear c9
     obtain ⟨ji10, hji10⟩ : ∃ j_ : Int, (shl .u64 a2 (ji8)) = j_ := ⟨_, rfl⟩
     replace H : (if 0 ≤ (IntKind.u64.wrap (64 - (ji8))) then (if ((ji10) / 4294967296) = 0 then (none) else (bits_Div64.l0 k ji10 ji8 ((ji10) / 4294967296) (Go.bits .and .u64 (ji10) 4294967295) (Go.bits .or .u64 (shl .u64 a0 (ji8)) (shr .u64 a1 (IntKind.u64.wrap (64 - (ji8))))) ((shl .u64 a1 (ji8)) / 4294967296) (Go.bits .and .u64 (shl .u64 a1 (ji8)) 4294967295) (IntKind.u64.wrap (Int.tdiv (Go.bits .or .u64 (shl .u64 a0 (ji8)) (shr .u64 a1 (IntKind.u64.wrap (64 - (ji8))))) ((ji10) / 4294967296))) (IntKind.u64.wrap ((Go.bits .or .u64 (shl .u64 a0 (ji8)) (shr .u64 a1 (IntKind.u64.wrap (64 - (ji8))))) - (IntKind.u64.wrap ((IntKind.u64.wrap (Int.tdiv (Go.bits .or .u64 (shl .u64 a0 (ji8)) (shr .u64 a1 (IntKind.u64.wrap (64 - (ji8))))) ((ji10) / 4294967296))) * ((ji10) / 4294967296))))))) else (none)) = some (r1, r2) := by first | (rw [hji10] at H; exact H) | (simp only [hji10] at H ⊢; exact H)
     (try rw [hji10] at A7)
     have hji10_ : (IntKind.u64.wrap (a2 * 2 ^ min (ji8).toNat 64)) = ji10 := hji10
     have hji10z : (ji8) ≤ 64 → (IntKind.u64.wrap (a2 * 2 ^ (ji8).toNat)) = ji10 := shl_small hji10
     have c11b0 := eq_true (of_decide_eq_true (by first | (with_reducible assumption) | assumption) : 0 ≤ (ji8))
     obtain ⟨ji12, hji12⟩ : ∃ j_ : Int, (shl .u64 a0 (ji8)) = j_ := ⟨_, rfl⟩
     replace H : (if 0 ≤ (IntKind.u64.wrap (64 - (ji8))) then (if ((ji10) / 4294967296) = 0 then (none) else (bits_Div64.l0 k ji10 ji8 ((ji10) / 4294967296) (Go.bits .and .u64 (ji10) 4294967295) (Go.bits .or .u64 (ji12) (shr .u64 a1 (IntKind.u64.wrap (64 - (ji8))))) ((shl .u64 a1 (ji8)) / 4294967296) (Go.bits .and .u64 (shl .u64 a1 (ji8)) 4294967295) (IntKind.u64.wrap (Int.tdiv (Go.bits .or .u64 (ji12) (shr .u64 a1 (IntKind.u64.wrap (64 - (ji8))))) ((ji10) / 4294967296))) (IntKind.u64.wrap ((Go.bits .or .u64 (ji12) (shr .u64 a1 (IntKind.u64.wrap (64 - (ji8))))) - (IntKind.u64.wrap ((IntKind.u64.wrap (Int.tdiv (Go.bits .or .u64 (ji12) (shr .u64 a1 (IntKind.u64.wrap (64 - (ji8))))) ((ji10) / 4294967296))) * ((ji10) / 4294967296))))))) else (none)) = some (r1, r2) := by first | (rw [hji12] at H; exact H) | (simp only [hji12] at H ⊢; exact H)
     (try rw [hji12] at A7)
     have hji12_ : (IntKind.u64.wrap (a0 * 2 ^ min (ji8).toNat 64)) = ji12 := hji12
     have hji12z : (ji8) ≤ 64 → (IntKind.u64.wrap (a0 * 2 ^ (ji8).toNat)) = ji12 := shl_small hji12
     obtain ⟨ji13, hji13⟩ : ∃ j_ : Int, (IntKind.u64.wrap (64 - (ji8))) = j_ := ⟨_, rfl⟩
     replace H : (if 0 ≤ (ji13) then (if ((ji10) / 4294967296) = 0 then (none) else (bits_Div64.l0 k ji10 ji8 ((ji10) / 4294967296) (Go.bits .and .u64 (ji10) 4294967295) (Go.bits .or .u64 (ji12) (shr .u64 a1 (ji13))) ((shl .u64 a1 (ji8)) / 4294967296) (Go.bits .and .u64 (shl .u64 a1 (ji8)) 4294967295) (IntKind.u64.wrap (Int.tdiv (Go.bits .or .u64 (ji12) (shr .u64 a1 (ji13))) ((ji10) / 4294967296))) (IntKind.u64.wrap ((Go.bits .or .u64 (ji12) (shr .u64 a1 (ji13))) - (IntKind.u64.wrap ((IntKind.u64.wrap (Int.tdiv (Go.bits .or .u64 (ji12) (shr .u64 a1 (ji13))) ((ji10) / 4294967296))) * ((ji10) / 4294967296))))))) else (none)) = some (r1, r2) := by first | (rw [hji13] at H; exact H) | (simp only [hji13] at H ⊢; exact H)
     (try rw [hji13] at A7)
     by_cases c14 : 0 ≤ (ji13)
     ·rw [if_pos c14] at H
      have c14b0 := eq_true c14
      have c14b1 : decide (0 ≤ (ji13)) = true := decide_eq_true c14
      clear c14
      obtain ⟨ji15, hji15⟩ : ∃ j_ : Int, (shr .u64 a1 (ji13)) = j_ := ⟨_, rfl⟩
      replace H : (if ((ji10) / 4294967296) = 0 then (none) else (bits_Div64.l0 k ji10 ji8 ((ji10) / 4294967296) (Go.bits .and .u64 (ji10) 4294967295) (Go.bits .or .u64 (ji12) (ji15)) ((shl .u64 a1 (ji8)) / 4294967296) (Go.bits .and .u64 (shl .u64 a1 (ji8)) 4294967295) (IntKind.u64.wrap (Int.tdiv (Go.bits .or .u64 (ji12) (ji15)) ((ji10) / 4294967296))) (IntKind.u64.wrap ((Go.bits .or .u64 (ji12) (ji15)) - (IntKind.u64.wrap ((IntKind.u64.wrap (Int.tdiv (Go.bits .or .u64 (ji12) (ji15)) ((ji10) / 4294967296))) * ((ji10) / 4294967296))))))) = some (r1, r2) := by first | (rw [hji15] at H; exact H) | (simp only [hji15] at H ⊢; exact H)
      (try rw [hji15] at A7)
      have hji15_ : (a1 / 2 ^ min (ji13).toNat 64) = ji15 := hji15
      have hji15z : (ji13) ≤ 64 → (a1 / 2 ^ (ji13).toNat) = ji15 := shr_small hji15
      have c16b0 := eq_true (of_decide_eq_true (by first | (with_reducible assumption) | assumption) : 0 ≤ (ji8))
      obtain ⟨ji17, hji17⟩ : ∃ j_ : Int, (shl .u64 a1 (ji8)) = j_ := ⟨_, rfl⟩
      replace H : (if ((ji10) / 4294967296) = 0 then (none) else (bits_Div64.l0 k ji10 ji8 ((ji10) / 4294967296) (Go.bits .and .u64 (ji10) 4294967295) (Go.bits .or .u64 (ji12) (ji15)) ((ji17) / 4294967296) (Go.bits .and .u64 (ji17) 4294967295) (IntKind.u64.wrap (Int.tdiv (Go.bits .or .u64 (ji12) (ji15)) ((ji10) / 4294967296))) (IntKind.u64.wrap ((Go.bits .or .u64 (ji12) (ji15)) - (IntKind.u64.wrap ((IntKind.u64.wrap (Int.tdiv (Go.bits .or .u64 (ji12) (ji15)) ((ji10) / 4294967296))) * ((ji10) / 4294967296))))))) = some (r1, r2) := by first | (rw [hji17] at H; exact H) | (simp only [hji17] at H ⊢; exact H)
      (try rw [hji17] at A7)
      have hji17_ : (IntKind.u64.wrap (a1 * 2 ^ min (ji8).toNat 64)) = ji17 := hji17
      have hji17z : (ji8) ≤ 64 → (IntKind.u64.wrap (a1 * 2 ^ (ji8).toNat)) = ji17 := shl_small hji17
      by_cases c18 : ((ji10) / 4294967296) = 0
      ·rw [if_pos c18] at H
       exact absurd H (by simp)
      ·rw [if_neg c18] at H
       have c18b0 : (((ji10) / 4294967296) == 0) = false := beq_eq_false_iff_ne.mpr c18
       have c18b1 : (((ji10) / 4294967296) != 0) = true := bne_iff_ne.mpr c18
       have HC19 := Aside0.mk H
       clear H
       go_enter Try.func65, Try.ntmps65
       go_upto_block 0 with (first | (go_at_call 66; (with_reducible refine (bits_LeadingZeros64.calls a2 t102 _ A7.out).mono ?_); rintro e w' ⟨rfl, ⟨nd, rfl⟩⟩; (try first | exact ⟨rfl, _, World.drewN_drewN _ _ _⟩ | exact ⟨rfl, _, Eq.trans (World.drewN_drewN _ _ _) (congrArg (World.drewN _) (Nat.add_assoc _ _ _))⟩)))
       repeat (go_quiet (first | (go_at_call 66; (with_reducible refine (bits_LeadingZeros64.calls a2 t102 _ A7.out).mono ?_); rintro e w' ⟨rfl, ⟨nd, rfl⟩⟩; (try first | exact ⟨rfl, _, World.drewN_drewN _ _ _⟩ | exact ⟨rfl, _, Eq.trans (World.drewN_drewN _ _ _) (congrArg (World.drewN _) (Nat.add_assoc _ _ _))⟩))); go_upto_block 0 with (first | (go_at_call 66; (with_reducible refine (bits_LeadingZeros64.calls a2 t102 _ A7.out).mono ?_); rintro e w' ⟨rfl, ⟨nd, rfl⟩⟩; (try first | exact ⟨rfl, _, World.drewN_drewN _ _ _⟩ | exact ⟨rfl, _, Eq.trans (World.drewN_drewN _ _ _) (congrArg (World.drewN _) (Nat.add_assoc _ _ _))⟩))))
       (try simp only [Act.put, List.setIfInBounds_toArray, List.set_cons_zero, List.set_cons_succ])
       go_cut [15] (fun v15 wc => ∃ (kq : Nat) (x15_18 : Int), v15 = .int .u64 x15_18 ∧ Aside0 (bits_Div64.j2 kq ji10 ji8 ((ji10) / 4294967296) (Go.bits .and .u64 (ji10) 4294967295) (Go.bits .or .u64 (ji12) (ji15)) ((ji17) / 4294967296) (Go.bits .and .u64 (ji17) 4294967295) x15_18 = some (r1, r2)) ∧ Aside0 (kq ≤ k) ∧ Drawn0 w wc)
       case first =>
        have H := HC19.out
        clear HC19
        have H' := Aside0.mk H
        clear H
        go_wp2
        repeat (go_quiet (fail); try go_wp2)
        go_loopg [15, 16] k (fun kq v15 v16 w' => ∃ (x15_1 : Int) (x16_1 : Int), v15 = .int .u64 x15_1 ∧ v16 = .int .u64 x16_1 ∧ Aside0 (bits_Div64.l0 kq ji10 ji8 ((ji10) / 4294967296) (Go.bits .and .u64 (ji10) 4294967295) (Go.bits .or .u64 (ji12) (ji15)) ((ji17) / 4294967296) (Go.bits .and .u64 (ji17) 4294967295) x15_1 x16_1 = some (r1, r2)) ∧ Aside0 (kq ≤ k) ∧ Drawn0 w w')
        case atStart => exact ⟨(IntKind.u64.wrap (Int.tdiv (Go.bits .or .u64 (ji12) (ji15)) ((ji10) / 4294967296))), (IntKind.u64.wrap ((Go.bits .or .u64 (ji12) (ji15)) - (IntKind.u64.wrap ((IntKind.u64.wrap (Int.tdiv (Go.bits .or .u64 (ji12) (ji15)) ((ji10) / 4294967296))) * ((ji10) / 4294967296))))), (by first | rfl | (simp; done) | (simp only [← hji10, ← hji12, ← hji15] <;> (first | rfl | simp)) | (simp [*]; done)), (by first | rfl | (simp; done) | (simp only [← hji10, ← hji12, ← hji15] <;> (first | rfl | simp)) | (simp [*]; done)), H', ⟨Nat.le_refl _⟩, by repeat (first | exact Drawn0.refl _ | apply Drawn0.step)⟩
        case round =>
         clear H'
         try clear c1
         try clear p2
         try clear c4
         try clear c4b0
         try clear c4b1
         try clear c5
         try clear c5b0
         try clear c6
         try clear c6b0
         try clear c6b1
         try clear c9
         try clear c9b0
         try clear c9b1
         try clear c11
         try clear c11b0
         try clear c14
         try clear c14b0
         try clear c14b1
         try clear c16
         try clear c16b0
         try clear c18
         try clear c18b0
         try clear c18b1
         obtain ⟨x15_1, x16_1, rfl, rfl, HA, HK1, ⟨m1, rfl⟩⟩ := hrel
         cases gk with
         | zero => exact absurd HA.out (by simp [bits_Div64.l0])
         | succ k1 =>
          have H := HA.out
          clear HA
          simp only [bits_Div64.l0] at H
          have HC20 := Aside0.mk H
          clear H
          go_upto_region 17 with (fail)
          repeat (go_quiet (fail); go_upto_region 17 with (fail))
          go_cut [78] (fun v78 wc => ∃ (kq : Nat) (x78_19 : Bool), v78 = .bool x78_19 ∧ Aside0 (bits_Div64.j1 kq ji10 ji8 ((ji10) / 4294967296) (Go.bits .and .u64 (ji10) 4294967295) (Go.bits .or .u64 (ji12) (ji15)) ((ji17) / 4294967296) (Go.bits .and .u64 (ji17) 4294967295) x15_1 x16_1 x78_19 = some (r1, r2)) ∧ Aside0 (kq ≤ k1) ∧ Drawn0 w wc)
          case first =>
           have H := HC20.out
           clear HC20
           by_cases c21 : x15_1 ≥ 4294967296
           ·rw [if_pos c21] at H
            have c21b0 : decide (4294967296 ≤ x15_1) = true := decide_eq_true c21
            clear c21
            (first | rw [c21b0] | (simp only [i64_w, i32_w]; rw [c21b0]) | skip)
            have H' := Aside0.mk H
            clear H
            go_wp2
            repeat (go_quiet (fail); try go_wp2)
            go_meet
            case rel => exact ⟨_, (true), (by first | rfl | (simp; done) | (simp [*]; done)), H', ⟨by have := HK1.out; first | omega | exact Nat.le_refl _⟩, by repeat (first | exact Drawn0.refl _ | apply Drawn0.step)⟩
           ·rw [if_neg c21] at H
            have c21b0 : decide (4294967296 ≤ x15_1) = false := decide_eq_false c21
            clear c21
            (first | rw [c21b0] | (simp only [i64_w, i32_w]; rw [c21b0]) | skip)
            have H' := Aside0.mk H
            clear H
            go_wp2
            repeat (go_quiet (fail); try go_wp2)
            go_meet
            case rel => exact ⟨_, (decide ((IntKind.u64.wrap (x15_1 * (Go.bits .and .u64 (ji10) 4294967295))) > (IntKind.u64.wrap ((IntKind.u64.wrap (4294967296 * x16_1)) + ((ji17) / 4294967296))))), (by first | rfl | (simp; done) | (simp only [← hji10, ← hji17] <;> (first | rfl | simp)) | (simp [*]; done)), H', ⟨by have := HK1.out; first | omega | exact Nat.le_refl _⟩, by repeat (first | exact Drawn0.refl _ | apply Drawn0.step)⟩
          case rest =>
           clear HC20
           try clear c1
           try clear c2
           try clear p2
           try clear c4
           try clear c4b0
           try clear c4b1
           try clear c5
           try clear c5b0
           try clear c6
           try clear c6b0
           try clear c6b1
           try clear c9
           try clear c9b0
           try clear c9b1
           try clear c11
           try clear c11b0
           try clear c14
           try clear c14b0
           try clear c14b1
           try clear c16
           try clear c16b0
           try clear c18
           try clear c18b0
           try clear c18b1
           try clear c21
           try clear c21b0
           try clear p2
           obtain ⟨kq, x78_19, rfl, HA, HJ19, ⟨mc19, rfl⟩⟩ := hcut
           cases kq with
           | zero => exact absurd HA.out (by simp [bits_Div64.j1])
           | succ kj19 =>
            have H := HA.out
            clear HA
            simp only [bits_Div64.j1] at H
            by_cases c22 : x78_19 = true
            ·subst c22
             have H1 : (if (IntKind.u64.wrap (x16_1 + ((ji10) / 4294967296))) ≥ 4294967296 then (bits_Div64.j2 kj19 ji10 ji8 ((ji10) / 4294967296) (Go.bits .and .u64 (ji10) 4294967295) (Go.bits .or .u64 (ji12) (ji15)) ((ji17) / 4294967296) (Go.bits .and .u64 (ji17) 4294967295) (IntKind.u64.wrap (x15_1 - 1))) else (bits_Div64.l0 kj19 ji10 ji8 ((ji10) / 4294967296) (Go.bits .and .u64 (ji10) 4294967295) (Go.bits .or .u64 (ji12) (ji15)) ((ji17) / 4294967296) (Go.bits .and .u64 (ji17) 4294967295) (IntKind.u64.wrap (x15_1 - 1)) (IntKind.u64.wrap (x16_1 + ((ji10) / 4294967296))))) = some (r1, r2) := by rw [if_pos rfl] at H; exact H
             clear H
             have H := H1
             clear H1
             by_cases c23 : (IntKind.u64.wrap (x16_1 + ((ji10) / 4294967296))) ≥ 4294967296
             ·rw [if_pos c23] at H
              have c23b0 : decide (4294967296 ≤ (IntKind.u64.wrap (x16_1 + ((ji10) / 4294967296)))) = true := decide_eq_true c23
              clear c23
              have H' := Aside0.mk H
              clear H
              go_wp2
              repeat (go_quiet (fail); try go_wp2)
              go_meet
              case rel => exact ⟨_, (IntKind.u64.wrap (x15_1 - 1)), (by first | rfl | (simp; done) | (simp [*]; done)), H', ⟨by have := HK1.out; have := HJ19.out; first | omega | exact Nat.le_refl _⟩, by repeat (first | exact Drawn0.refl _ | apply Drawn0.step)⟩
             ·rw [if_neg c23] at H
              have c23b0 : decide (4294967296 ≤ (IntKind.u64.wrap (x16_1 + ((ji10) / 4294967296)))) = false := decide_eq_false c23
              clear c23
              have H' := Aside0.mk H
              clear H
              go_wp2
              repeat (go_quiet (fail); try go_wp2)
              go_roundg kj19
              case measure => have := HK1.out; have := HJ19.out; omega
              case rel => exact ⟨(IntKind.u64.wrap (x15_1 - 1)), (IntKind.u64.wrap (x16_1 + ((ji10) / 4294967296))), (by first | rfl | (simp; done) | (simp [*]; done)), (by first | rfl | (simp; done) | (simp only [← hji10] <;> (first | rfl | simp)) | (simp [*]; done)), H', ⟨by have := HK1.out; have := HJ19.out; omega⟩, by repeat (first | exact Drawn0.refl _ | apply Drawn0.step)⟩
            ·replace c22 := Bool.eq_false_iff.mpr c22
             subst c22
             have H1 : (bits_Div64.j2 kj19 ji10 ji8 ((ji10) / 4294967296) (Go.bits .and .u64 (ji10) 4294967295) (Go.bits .or .u64 (ji12) (ji15)) ((ji17) / 4294967296) (Go.bits .and .u64 (ji17) 4294967295) x15_1) = some (r1, r2) := by rw [if_neg (show ¬ (false = true) by decide)] at H; exact H
             clear H
             have H := H1
             clear H1
             have H' := Aside0.mk H
             clear H
             go_wp2
             repeat (go_quiet (fail); try go_wp2)
             go_meet
             case rel => exact ⟨_, (x15_1), (by first | rfl | (simp; done) | (simp [*]; done)), H', ⟨by have := HK1.out; have := HJ19.out; first | omega | exact Nat.le_refl _⟩, by repeat (first | exact Drawn0.refl _ | apply Drawn0.step)⟩
       case rest =>
        clear HC19
        try clear c1
        try clear c2
        try clear p2
        try clear c4
        try clear c4b0
        try clear c4b1
        try clear c5
        try clear c5b0
        try clear c6
        try clear c6b0
        try clear c6b1
        try clear c9
        try clear c9b0
        try clear c9b1
        try clear c11
        try clear c11b0
        try clear c14
        try clear c14b0
        try clear c14b1
        try clear c16
        try clear c16b0
        try clear c18
        try clear c18b0
        try clear c18b1
        try clear c19
        try clear c21
        try clear c21b0
        try clear c22
        try clear c23
        try clear c23b0
        try clear p2
        obtain ⟨kq, x15_18, rfl, HA, HJ18, ⟨mc18, rfl⟩⟩ := hcut
        cases kq with
        | zero => exact absurd HA.out (by simp [bits_Div64.j2])
        | succ kj18 =>
         have H := HA.out
         clear HA
         simp only [bits_Div64.j2] at H
         by_cases c24 : ((ji10) / 4294967296) = 0
         ·rw [if_pos c24] at H
          exact absurd H (by simp)
         ·rw [if_neg c24] at H
          have c24b0 : (((ji10) / 4294967296) == 0) = false := beq_eq_false_iff_ne.mpr c24
          have c24b1 : (((ji10) / 4294967296) != 0) = true := bne_iff_ne.mpr c24
          have H' := Aside0.mk H
          clear H
          go_wp2
          repeat (go_quiet (fail); try go_wp2)
          go_loopg [16, 18] kj18 (fun kq v16 v18 w' => ∃ (x16_2 : Int) (x18_2 : Int), v16 = .int .u64 x16_2 ∧ v18 = .int .u64 x18_2 ∧ Aside0 (bits_Div64.l1 kq ji10 ji8 ((ji10) / 4294967296) (Go.bits .and .u64 (ji10) 4294967295) (Go.bits .and .u64 (ji17) 4294967295) x15_18 x16_2 (IntKind.u64.wrap ((IntKind.u64.wrap ((IntKind.u64.wrap ((Go.bits .or .u64 (ji12) (ji15)) * 4294967296)) + ((ji17) / 4294967296))) - (IntKind.u64.wrap (x15_18 * ji10)))) x18_2 = some (r1, r2)) ∧ Aside0 (kq ≤ kj18) ∧ Drawn0 w w')
          case atStart => exact ⟨(IntKind.u64.wrap ((IntKind.u64.wrap ((IntKind.u64.wrap ((IntKind.u64.wrap ((Go.bits .or .u64 (ji12) (ji15)) * 4294967296)) + ((ji17) / 4294967296))) - (IntKind.u64.wrap (x15_18 * ji10)))) - (IntKind.u64.wrap ((IntKind.u64.wrap (Int.tdiv (IntKind.u64.wrap ((IntKind.u64.wrap ((IntKind.u64.wrap ((Go.bits .or .u64 (ji12) (ji15)) * 4294967296)) + ((ji17) / 4294967296))) - (IntKind.u64.wrap (x15_18 * ji10)))) ((ji10) / 4294967296))) * ((ji10) / 4294967296))))), (IntKind.u64.wrap (Int.tdiv (IntKind.u64.wrap ((IntKind.u64.wrap ((IntKind.u64.wrap ((Go.bits .or .u64 (ji12) (ji15)) * 4294967296)) + ((ji17) / 4294967296))) - (IntKind.u64.wrap (x15_18 * ji10)))) ((ji10) / 4294967296))), (by first | rfl | (simp; done) | (simp only [← hji10, ← hji12, ← hji15, ← hji17] <;> (first | rfl | simp)) | (simp [*]; done)), (by first | rfl | (simp; done) | (simp only [← hji10, ← hji12, ← hji15, ← hji17] <;> (first | rfl | simp)) | (simp [*]; done)), H', ⟨Nat.le_refl _⟩, by repeat (first | exact Drawn0.refl _ | apply Drawn0.step)⟩
          case round =>
           clear H'
           try clear c1
           try clear c2
           try clear p2
           try clear c4
           try clear c4b0
           try clear c4b1
           try clear c5
           try clear c5b0
           try clear c6
           try clear c6b0
           try clear c6b1
           try clear c9
           try clear c9b0
           try clear c9b1
           try clear c11
           try clear c11b0
           try clear c14
           try clear c14b0
           try clear c14b1
           try clear c16
           try clear c16b0
           try clear c18
           try clear c18b0
           try clear c18b1
           try clear c19
           try clear c21
           try clear c21b0
           try clear c22
           try clear c23
           try clear c23b0
           try clear c24
           try clear c24b0
           try clear c24b1
           try clear p2
           obtain ⟨x16_2, x18_2, rfl, rfl, HA, HK2, ⟨m2, rfl⟩⟩ := hrel
           cases gk with
           | zero => exact absurd HA.out (by simp [bits_Div64.l1])
           | succ k2 =>
            have H := HA.out
            clear HA
            simp only [bits_Div64.l1] at H
            have HC25 := Aside0.mk H
            clear H
            go_upto_region 24 with (fail)
            repeat (go_quiet (fail); go_upto_region 24 with (fail))
            go_cut [113] (fun v113 wc => ∃ (kq : Nat) (x113_24 : Bool), v113 = .bool x113_24 ∧ Aside0 (bits_Div64.j4 kq ji10 ji8 ((ji10) / 4294967296) (Go.bits .and .u64 (ji10) 4294967295) (Go.bits .and .u64 (ji17) 4294967295) x15_18 x16_2 (IntKind.u64.wrap ((IntKind.u64.wrap ((IntKind.u64.wrap ((Go.bits .or .u64 (ji12) (ji15)) * 4294967296)) + ((ji17) / 4294967296))) - (IntKind.u64.wrap (x15_18 * ji10)))) x18_2 x113_24 = some (r1, r2)) ∧ Aside0 (kq ≤ k2) ∧ Drawn0 w wc)
            case first =>
             have H := HC25.out
             clear HC25
             by_cases c26 : x18_2 ≥ 4294967296
             ·rw [if_pos c26] at H
              have c26b0 : decide (4294967296 ≤ x18_2) = true := decide_eq_true c26
              clear c26
              (first | rw [c26b0] | (simp only [i64_w, i32_w]; rw [c26b0]) | skip)
              have H' := Aside0.mk H
              clear H
              go_wp2
              repeat (go_quiet (fail); try go_wp2)
              go_meet
              case rel => exact ⟨_, (true), (by first | rfl | (simp; done) | (simp [*]; done)), H', ⟨by have := HJ18.out; have := HK2.out; first | omega | exact Nat.le_refl _⟩, by repeat (first | exact Drawn0.refl _ | apply Drawn0.step)⟩
             ·rw [if_neg c26] at H
              have c26b0 : decide (4294967296 ≤ x18_2) = false := decide_eq_false c26
              clear c26
              (first | rw [c26b0] | (simp only [i64_w, i32_w]; rw [c26b0]) | skip)
              have H' := Aside0.mk H
              clear H
              go_wp2
              repeat (go_quiet (fail); try go_wp2)
              go_meet
              case rel => exact ⟨_, (decide ((IntKind.u64.wrap (x18_2 * (Go.bits .and .u64 (ji10) 4294967295))) > (IntKind.u64.wrap ((IntKind.u64.wrap (4294967296 * x16_2)) + (Go.bits .and .u64 (ji17) 4294967295))))), (by first | rfl | (simp; done) | (simp only [← hji10, ← hji17] <;> (first | rfl | simp)) | (simp [*]; done)), H', ⟨by have := HJ18.out; have := HK2.out; first | omega | exact Nat.le_refl _⟩, by repeat (first | exact Drawn0.refl _ | apply Drawn0.step)⟩
            case rest =>
             clear HC25
             try clear c1
             try clear c2
             try clear p2
             try clear c4
             try clear c4b0
             try clear c4b1
             try clear c5
             try clear c5b0
             try clear c6
             try clear c6b0
             try clear c6b1
             try clear c9
             try clear c9b0
             try clear c9b1
             try clear c11
             try clear c11b0
             try clear c14
             try clear c14b0
             try clear c14b1
             try clear c16
             try clear c16b0
             try clear c18
             try clear c18b0
             try clear c18b1
             try clear c19
             try clear c21
             try clear c21b0
             try clear c22
             try clear c23
             try clear c23b0
             try clear c24
             try clear c24b0
             try clear c24b1
             try clear c26
             try clear c26b0
             try clear p2
             obtain ⟨kq, x113_24, rfl, HA, HJ24, ⟨mc24, rfl⟩⟩ := hcut
             cases kq with
             | zero => exact absurd HA.out (by simp [bits_Div64.j4])
             | succ kj24 =>
              have H := HA.out
              clear HA
              simp only [bits_Div64.j4] at H
              by_cases c27 : x113_24 = true
              ·subst c27
               have H1 : (if (IntKind.u64.wrap (x16_2 + ((ji10) / 4294967296))) ≥ 4294967296 then (if 0 ≤ ji8 then (some (IntKind.u64.wrap ((IntKind.u64.wrap (x15_18 * 4294967296)) + (IntKind.u64.wrap (x18_2 - 1))), shr .u64 (IntKind.u64.wrap ((IntKind.u64.wrap ((IntKind.u64.wrap ((IntKind.u64.wrap ((IntKind.u64.wrap ((IntKind.u64.wrap ((Go.bits .or .u64 (ji12) (ji15)) * 4294967296)) + ((ji17) / 4294967296))) - (IntKind.u64.wrap (x15_18 * ji10)))) * 4294967296)) + (Go.bits .and .u64 (ji17) 4294967295))) - (IntKind.u64.wrap ((IntKind.u64.wrap (x18_2 - 1)) * ji10)))) ji8)) else (none)) else (bits_Div64.l1 kj24 ji10 ji8 ((ji10) / 4294967296) (Go.bits .and .u64 (ji10) 4294967295) (Go.bits .and .u64 (ji17) 4294967295) x15_18 (IntKind.u64.wrap (x16_2 + ((ji10) / 4294967296))) (IntKind.u64.wrap ((IntKind.u64.wrap ((IntKind.u64.wrap ((Go.bits .or .u64 (ji12) (ji15)) * 4294967296)) + ((ji17) / 4294967296))) - (IntKind.u64.wrap (x15_18 * ji10)))) (IntKind.u64.wrap (x18_2 - 1)))) = some (r1, r2) := by rw [if_pos rfl] at H; exact H
               clear H
               have H := H1
               clear H1
               by_cases c28 : (IntKind.u64.wrap (x16_2 + ((ji10) / 4294967296))) ≥ 4294967296
               ·rw [if_pos c28] at H
                have c28b0 : decide (4294967296 ≤ (IntKind.u64.wrap (x16_2 + ((ji10) / 4294967296)))) = true := decide_eq_true c28
                clear c28
                by_cases c29 : 0 ≤ ji8
                ·rw [if_pos c29] at H
                 have c29b0 := eq_true c29
                 have c29b1 : decide (0 ≤ ji8) = true := decide_eq_true c29
                 clear c29
                 obtain ⟨ji30, hji30⟩ : ∃ j_ : Int, (shr .u64 (IntKind.u64.wrap ((IntKind.u64.wrap ((IntKind.u64.wrap ((IntKind.u64.wrap ((IntKind.u64.wrap ((IntKind.u64.wrap ((Go.bits .or .u64 (ji12) (ji15)) * 4294967296)) + ((ji17) / 4294967296))) - (IntKind.u64.wrap (x15_18 * ji10)))) * 4294967296)) + (Go.bits .and .u64 (ji17) 4294967295))) - (IntKind.u64.wrap ((IntKind.u64.wrap (x18_2 - 1)) * ji10)))) ji8) = j_ := ⟨_, rfl⟩
                 replace H : (some (IntKind.u64.wrap ((IntKind.u64.wrap (x15_18 * 4294967296)) + (IntKind.u64.wrap (x18_2 - 1))), ji30)) = some (r1, r2) := by first | (rw [hji30] at H; exact H) | (simp only [hji30] at H ⊢; exact H)
                 have hji30_ : ((IntKind.u64.wrap ((IntKind.u64.wrap ((IntKind.u64.wrap ((IntKind.u64.wrap ((IntKind.u64.wrap ((IntKind.u64.wrap ((Go.bits .or .u64 (ji12) (ji15)) * 4294967296)) + ((ji17) / 4294967296))) - (IntKind.u64.wrap (x15_18 * ji10)))) * 4294967296)) + (Go.bits .and .u64 (ji17) 4294967295))) - (IntKind.u64.wrap ((IntKind.u64.wrap (x18_2 - 1)) * ji10)))) / 2 ^ min ji8.toNat 64) = ji30 := hji30
                 have hji30z : ji8 ≤ 64 → ((IntKind.u64.wrap ((IntKind.u64.wrap ((IntKind.u64.wrap ((IntKind.u64.wrap ((IntKind.u64.wrap ((IntKind.u64.wrap ((Go.bits .or .u64 (ji12) (ji15)) * 4294967296)) + ((ji17) / 4294967296))) - (IntKind.u64.wrap (x15_18 * ji10)))) * 4294967296)) + (Go.bits .and .u64 (ji17) 4294967295))) - (IntKind.u64.wrap ((IntKind.u64.wrap (x18_2 - 1)) * ji10)))) / 2 ^ ji8.toNat) = ji30 := shr_small hji30
                 simp only [Option.some.injEq, Prod.mk.injEq] at H
                 obtain ⟨rfl, rfl⟩ := H
                 go_wp2
                 repeat (go_quiet (fail); try go_wp2)
                 go_ret2
                 exact ⟨by first | rfl | (simp; done) | (simp only [← hji8, ← hji10, ← hji12, ← hji13, ← hji15, ← hji17, ← hji30] <;> (first | rfl | simp)) | (simp [*]; done), by repeat (first | exact Drawn0.refl _ | apply Drawn0.step)⟩
                ·rw [if_neg c29] at H
                 exact absurd H (by simp)
               ·rw [if_neg c28] at H
                have c28b0 : decide (4294967296 ≤ (IntKind.u64.wrap (x16_2 + ((ji10) / 4294967296)))) = false := decide_eq_false c28
                clear c28
                have H' := Aside0.mk H
                clear H
                go_wp2
                repeat (go_quiet (fail); try go_wp2)
                go_roundg kj24
                case measure => have := HJ18.out; have := HK2.out; have := HJ24.out; omega
                case rel => exact ⟨(IntKind.u64.wrap (x16_2 + ((ji10) / 4294967296))), (IntKind.u64.wrap (x18_2 - 1)), (by first | rfl | (simp; done) | (simp only [← hji10] <;> (first | rfl | simp)) | (simp [*]; done)), (by first | rfl | (simp; done) | (simp [*]; done)), H', ⟨by have := HJ18.out; have := HK2.out; have := HJ24.out; omega⟩, by repeat (first | exact Drawn0.refl _ | apply Drawn0.step)⟩
              ·replace c27 := Bool.eq_false_iff.mpr c27
               subst c27
               have H1 : (if 0 ≤ ji8 then (some (IntKind.u64.wrap ((IntKind.u64.wrap (x15_18 * 4294967296)) + x18_2), shr .u64 (IntKind.u64.wrap ((IntKind.u64.wrap ((IntKind.u64.wrap ((IntKind.u64.wrap ((IntKind.u64.wrap ((IntKind.u64.wrap ((Go.bits .or .u64 (ji12) (ji15)) * 4294967296)) + ((ji17) / 4294967296))) - (IntKind.u64.wrap (x15_18 * ji10)))) * 4294967296)) + (Go.bits .and .u64 (ji17) 4294967295))) - (IntKind.u64.wrap (x18_2 * ji10)))) ji8)) else (none)) = some (r1, r2) := by rw [if_neg (show ¬ (false = true) by decide)] at H; exact H
               clear H
               have H := H1
               clear H1
               by_cases c31 : 0 ≤ ji8
               ·rw [if_pos c31] at H
                have c31b0 := eq_true c31
                have c31b1 : decide (0 ≤ ji8) = true := decide_eq_true c31
                clear c31
                obtain ⟨ji32, hji32⟩ : ∃ j_ : Int, (shr .u64 (IntKind.u64.wrap ((IntKind.u64.wrap ((IntKind.u64.wrap ((IntKind.u64.wrap ((IntKind.u64.wrap ((IntKind.u64.wrap ((Go.bits .or .u64 (ji12) (ji15)) * 4294967296)) + ((ji17) / 4294967296))) - (IntKind.u64.wrap (x15_18 * ji10)))) * 4294967296)) + (Go.bits .and .u64 (ji17) 4294967295))) - (IntKind.u64.wrap (x18_2 * ji10)))) ji8) = j_ := ⟨_, rfl⟩
                replace H : (some (IntKind.u64.wrap ((IntKind.u64.wrap (x15_18 * 4294967296)) + x18_2), ji32)) = some (r1, r2) := by first | (rw [hji32] at H; exact H) | (simp only [hji32] at H ⊢; exact H)
                have hji32_ : ((IntKind.u64.wrap ((IntKind.u64.wrap ((IntKind.u64.wrap ((IntKind.u64.wrap ((IntKind.u64.wrap ((IntKind.u64.wrap ((Go.bits .or .u64 (ji12) (ji15)) * 4294967296)) + ((ji17) / 4294967296))) - (IntKind.u64.wrap (x15_18 * ji10)))) * 4294967296)) + (Go.bits .and .u64 (ji17) 4294967295))) - (IntKind.u64.wrap (x18_2 * ji10)))) / 2 ^ min ji8.toNat 64) = ji32 := hji32
                have hji32z : ji8 ≤ 64 → ((IntKind.u64.wrap ((IntKind.u64.wrap ((IntKind.u64.wrap ((IntKind.u64.wrap ((IntKind.u64.wrap ((IntKind.u64.wrap ((Go.bits .or .u64 (ji12) (ji15)) * 4294967296)) + ((ji17) / 4294967296))) - (IntKind.u64.wrap (x15_18 * ji10)))) * 4294967296)) + (Go.bits .and .u64 (ji17) 4294967295))) - (IntKind.u64.wrap (x18_2 * ji10)))) / 2 ^ ji8.toNat) = ji32 := shr_small hji32
                simp only [Option.some.injEq, Prod.mk.injEq] at H
                obtain ⟨rfl, rfl⟩ := H
                go_wp2
                repeat (go_quiet (fail); try go_wp2)
                go_ret2
                exact ⟨by first | rfl | (simp; done) | (simp only [← hji8, ← hji10, ← hji12, ← hji13, ← hji15, ← hji17, ← hji32] <;> (first | rfl | simp)) | (simp [*]; done), by repeat (first | exact Drawn0.refl _ | apply Drawn0.step)⟩
               ·rw [if_neg c31] at H
                exact absurd H (by simp)
     ·rw [if_neg c14] at H
      exact absurd H (by simp)
    ·rw [if_neg c9] at H
     exact absurd H (by simp)
theorem div64_l1 (y s yn1 yn0 un q1 u : Int) (hs : 0 ≤ s) (d : Nat) : ∀ r q, DvInv y yn1 yn0 u un r q → (4294967296 - r).toNat < d →
  ∃ k, bits_Div64.l1 k y s yn1 yn0 un q1 r u q = some (IntKind.u64.wrap ((IntKind.u64.wrap (q1 * 4294967296)) + (u * 4294967296 + un) / y), shr .u64 (u * 4294967296 + un - (u * 4294967296 + un) / y * y) s) := by
 induction d with
 | zero => intro r q h hd; omega
 | succ d ih =>
  intro r q h hd
  obtain ⟨t1, t2, q0⟩ := h.test
  have R := h.rest
  have y64 := h.y64
  have Q0 := h.Q0; have QB := h.QB
  have r0 := h.r0; have r1 := h.r1; have n1 := h.n1; have n1' := h.n1'
  by_cases ht : 4294967296 ≤ q ∨ r * 4294967296 + un < q * yn0
  ·have l := h.less ht
   have hq := h.q1
   have eq1 : IntKind.u64.wrap (q - 1) = q - 1 := u64_id _ (by omega) (by omega)
   have er : IntKind.u64.wrap (r + yn1) = r + yn1 := u64_id _ (by omega) (by omega)
   have step : ∀ k, bits_Div64.l1 (k + 2) y s yn1 yn0 un q1 r u q = bits_Div64.j4 (k + 1) y s yn1 yn0 un q1 r u q true := by
    intro k
    conv => lhs; unfold bits_Div64.l1
    by_cases hb : 4294967296 ≤ q
    ·rw [if_pos hb]
    ·rw [if_neg hb, t1, t2, decide_eq_true (show q * yn0 > r * 4294967296 + un by omega)]
   by_cases hr : r + yn1 < 4294967296
   ·obtain ⟨k, hk⟩ := ih (r + yn1) (q - 1) (h.next ht hr) (by omega)
    refine ⟨k + 2, ?_⟩
    rw [step k]
    conv => lhs; unfold bits_Div64.j4
    rw [if_pos rfl, er, if_neg (by omega), eq1]
    exact hk
   ·refine ⟨2, ?_⟩
    have st := h.stop ht (by omega)
    rw [step 0]
    conv => lhs; unfold bits_Div64.j4
    rw [if_pos rfl, er, if_pos (by omega), if_pos hs, eq1, dv_rest u un (q - 1) y _ (by rw [st]) R.1 (by omega), st]
  ·have f := h.found (by omega)
   refine ⟨2, ?_⟩
   conv => lhs; unfold bits_Div64.l1
   rw [if_neg (by omega), t1, t2, decide_eq_false (by omega)]
   conv => lhs; unfold bits_Div64.j4
   rw [if_neg (by simp), if_pos hs, dv_rest u un q y _ (by rw [f]) R.1 (by omega), f]
theorem div64_l0 (y s yn1 yn0 un1 un0 u : Int) (hs : 0 ≤ s) (hu0 : 0 ≤ un0) (hu1 : un0 < 4294967296) (d : Nat) : ∀ r q, DvInv y yn1 yn0 u un1 r q → (4294967296 - r).toNat < d →
  ∃ k, bits_Div64.l0 k y s yn1 yn0 u un1 un0 q r = some (IntKind.u64.wrap ((IntKind.u64.wrap ((u * 4294967296 + un1) / y * 4294967296)) + ((u * 4294967296 + un1 - (u * 4294967296 + un1) / y * y) * 4294967296 + un0) / y), shr .u64 ((u * 4294967296 + un1 - (u * 4294967296 + un1) / y * y) * 4294967296 + un0 - ((u * 4294967296 + un1 - (u * 4294967296 + un1) / y * y) * 4294967296 + un0) / y * y) s) := by
 have two : ∀ r q, DvInv y yn1 yn0 u un1 r q → ∀ q', q' = (u * 4294967296 + un1) / y → ∃ k, bits_Div64.j2 k y s yn1 yn0 u un1 un0 q' = some (IntKind.u64.wrap ((IntKind.u64.wrap ((u * 4294967296 + un1) / y * 4294967296)) + ((u * 4294967296 + un1 - (u * 4294967296 + un1) / y * y) * 4294967296 + un0) / y), shr .u64 ((u * 4294967296 + un1 - (u * 4294967296 + un1) / y * y) * 4294967296 + un0 - ((u * 4294967296 + un1 - (u * 4294967296 + un1) / y * y) * 4294967296 + un0) / y * y) s) := by
  intro r q h q' hq'
  have R := h.rest
  have y64 := h.y64
  have e := dv_rest u un1 q' y _ (by rw [hq']) R.1 (by omega)
  generalize hv : u * 4294967296 + un1 - (u * 4294967296 + un1) / y * y = v at *
  have i := DvInv.start h.hy h.n1 h.n1' h.n0 h.n0' hu0 hu1 R.1 R.2
  obtain ⟨k, hk⟩ := div64_l1 y s yn1 yn0 un0 q' v hs _ _ _ i (Nat.lt_succ_self _)
  refine ⟨k + 1, ?_⟩
  simp only [bits_Div64.j2]
  have n1 := h.n1
  have td : IntKind.u64.wrap (Int.tdiv v yn1) = v / yn1 := by
   rw [Int.tdiv_eq_ediv_of_nonneg R.1]
   exact u64_id _ (Int.ediv_nonneg R.1 (by omega)) (Int.lt_of_le_of_lt (Int.ediv_le_self _ R.1) (by omega))
  have m0 := Int.ediv_nonneg R.1 (show 0 ≤ yn1 by omega)
  have m1 := Int.ediv_mul_le v (show yn1 ≠ 0 by omega)
  have m2 := Int.mul_nonneg m0 (show 0 ≤ yn1 by omega)
  rw [if_neg (by omega), e, td, u64_id (v / yn1 * yn1) m2 (by omega), u64_id (v - v / yn1 * yn1) (by omega) (by omega), hk, hq']
 induction d with
 | zero => intro r q h hd; omega
 | succ d ih =>
  intro r q h hd
  obtain ⟨t1, t2, q0⟩ := h.test
  have r0 := h.r0; have r1 := h.r1; have n1 := h.n1; have n1' := h.n1'
  by_cases ht : 4294967296 ≤ q ∨ r * 4294967296 + un1 < q * yn0
  ·have l := h.less ht
   have hq := h.q1
   have Q0 := h.Q0
   have eq1 : IntKind.u64.wrap (q - 1) = q - 1 := u64_id _ (by omega) (by omega)
   have er : IntKind.u64.wrap (r + yn1) = r + yn1 := u64_id _ (by omega) (by omega)
   have step : ∀ k, bits_Div64.l0 (k + 2) y s yn1 yn0 u un1 un0 q r = bits_Div64.j1 (k + 1) y s yn1 yn0 u un1 un0 q r true := by
    intro k
    conv => lhs; unfold bits_Div64.l0
    by_cases hb : 4294967296 ≤ q
    ·rw [if_pos hb]
    ·rw [if_neg hb, t1, t2, decide_eq_true (show q * yn0 > r * 4294967296 + un1 by omega)]
   by_cases hr : r + yn1 < 4294967296
   ·obtain ⟨k, hk⟩ := ih (r + yn1) (q - 1) (h.next ht hr) (by omega)
    refine ⟨k + 2, ?_⟩
    rw [step k]
    conv => lhs; unfold bits_Div64.j1
    rw [if_pos rfl, er, if_neg (by omega), eq1]
    exact hk
   ·obtain ⟨k, hk⟩ := two r q h (q - 1) (h.stop ht (by omega))
    refine ⟨k + 2, ?_⟩
    rw [step k]
    conv => lhs; unfold bits_Div64.j1
    rw [if_pos rfl, er, if_pos (by omega), eq1]
    exact hk
  ·obtain ⟨k, hk⟩ := two r q h q (h.found (by omega))
   refine ⟨k + 2, ?_⟩
   conv => lhs; unfold bits_Div64.l0
   rw [if_neg (by omega), t1, t2, decide_eq_false (by omega)]
   conv => lhs; unfold bits_Div64.j1
   rw [if_neg (by simp)]
   exact hk
theorem div64_spec (hi lo y : Int) (h0 : 0 ≤ hi) (hy : hi < y) (hy1 : y < 18446744073709551616) (l0 : 0 ≤ lo) (l1 : lo < 18446744073709551616) :
  ∃ k, bits_Div64.f k hi lo y = some ((hi * 18446744073709551616 + lo) / y, (hi * 18446744073709551616 + lo) % y) := by
 by_cases hz : hi = 0
 ·subst hz
  refine ⟨0, ?_⟩
  unfold bits_Div64.f
  rw [if_neg (by omega), if_neg (by omega), if_pos rfl, Int.tdiv_eq_ediv_of_nonneg l0, Int.tmod_eq_emod_of_nonneg l0, Int.zero_mul, Int.zero_add]
  rw [u64_id _ (Int.ediv_nonneg l0 (by omega)) (Int.lt_of_le_of_lt (Int.ediv_le_self _ l0) l1)]
 obtain ⟨j, eL, b1, b2, b3⟩ := bitLen_span y.toNat (by omega) (by omega)
 obtain ⟨P, hP⟩ : ∃ P : Int, P = ((2 ^ (63 - j) : Nat) : Int) := ⟨_, rfl⟩
 obtain ⟨R, hR⟩ : ∃ R : Int, R = ((2 ^ (j + 1) : Nat) : Int) := ⟨_, rfl⟩
 obtain ⟨J, hJ⟩ : ∃ J : Int, J = ((2 ^ j : Nat) : Int) := ⟨_, rfl⟩
 have P0 : 0 < P := by rw [hP]; exact Int.natCast_pos.mpr (Nat.two_pow_pos _)
 have R0 : 0 < R := by rw [hR]; exact Int.natCast_pos.mpr (Nat.two_pow_pos _)
 have PR : P * R = 18446744073709551616 := by
  rw [hP, hR, ← Int.natCast_mul, ← Nat.pow_add, show 63 - j + (j + 1) = 64 by omega]; rfl
 have PJ : J * P = 9223372036854775808 := by
  rw [hP, hJ, ← Int.natCast_mul, ← Nat.pow_add, show j + (63 - j) = 63 by omega]; rfl
 have yR : y < R := by rw [hR]; omega
 have Jy : J ≤ y := by rw [hJ]; omega
 have hs : (wrap64 (64 - ((j + 1 : Nat) : Int))) = ((63 - j : Nat) : Int) := by unfold wrap64; omega
 have hs2 : IntKind.u64.wrap ((63 - j : Nat) : Int) = ((63 - j : Nat) : Int) := u64_id _ (by omega) (by omega)
 have hs3 : IntKind.u64.wrap (64 - ((63 - j : Nat) : Int)) = ((j + 1 : Nat) : Int) := by rw [u64_id _ (by omega) (by omega)]; omega
 have eshl : ∀ x : Int, shl .u64 x ((63 - j : Nat) : Int) = x * P % 18446744073709551616 := by
  intro x
  unfold shl
  rw [u64_mod, hP, Int.toNat_natCast, Nat.min_eq_left (by show 63 - j ≤ 64; omega), Int.natCast_pow]; rfl
 have eshr : ∀ x : Int, shr .u64 x ((j + 1 : Nat) : Int) = x / R := by
  intro x
  unfold shr
  rw [hR, Int.toNat_natCast, Nat.min_eq_left (by show j + 1 ≤ 64; omega), Int.natCast_pow]; rfl
 have eshr2 : ∀ x : Int, shr .u64 x ((63 - j : Nat) : Int) = x / P := by
  intro x
  unfold shr
  rw [hP, Int.toNat_natCast, Nat.min_eq_left (by show 63 - j ≤ 64; omega), Int.natCast_pow]; rfl
 have Y1 : y * P < 18446744073709551616 := by rw [← PR, Int.mul_comm P R]; exact Int.mul_lt_mul_of_pos_right yR P0
 have Y0 : 9223372036854775808 ≤ y * P := by rw [← PJ]; exact Int.mul_le_mul_of_nonneg_right Jy (by omega)
 have hP1 : hi * P < y * P := Int.mul_lt_mul_of_pos_right hy P0
 have hP0 : 0 ≤ hi * P := Int.mul_nonneg h0 (by omega)
 obtain ⟨lp, lR0, lR1⟩ := shift_parts lo P R P0 R0 PR l0 l1
 have hyP : (hi + 1) * P ≤ y * P := Int.mul_le_mul_of_nonneg_right (by omega) (by omega)
 rw [Int.add_mul, Int.one_mul] at hyP
 have eor : Go.bits .or .u64 (hi * P) (lo / R) = hi * P + lo / R := or_add_u64 hi P (lo / R) (63 - j) hP h0 lR0 lR1 (by omega)
 have nP : (hi * 18446744073709551616 + lo) * P = (hi * P + lo / R) * 18446744073709551616 + lo * P % 18446744073709551616 := by
  rw [Int.add_mul, Int.mul_assoc, Int.mul_comm 18446744073709551616 P, ← Int.mul_assoc]
  omega
 have t0 := Int.emod_nonneg (lo * P) (show (18446744073709551616 : Int) ≠ 0 by omega)
 have t1 := Int.emod_lt_of_pos (lo * P) (show (0 : Int) < 18446744073709551616 by omega)
 have elz : bits_LeadingZeros64.f y = some ((63 - j : Nat) : Int) := by
  unfold bits_LeadingZeros64.f bits_Len64.f
  rw [if_pos ⟨by omega, by omega⟩, Option.bind_some, eL, hs]
 have qn := Int.mul_ediv_mul_of_pos_left (hi * 18446744073709551616 + lo) y P0
 have rn : (hi * 18446744073709551616 + lo) * P % (y * P) = (hi * 18446744073709551616 + lo) % y * P := by rw [Int.mul_comm _ P, Int.mul_comm y P, Int.mul_emod_mul_of_pos _ _ P0, Int.mul_comm]
 have y0 : 0 < y := by omega
 generalize hT : lo * P % 18446744073709551616 = T at *
 generalize hU : hi * P + lo / R = U at *
 have hA : (hi * P) % 18446744073709551616 = hi * P := Int.emod_eq_of_lt hP0 (by omega)
 have hB : (y * P) % 18446744073709551616 = y * P := Int.emod_eq_of_lt (by omega) Y1
 generalize hYY : y * P = Y at *
 have i := DvInv.start (y := Y) (yn1 := Y / 4294967296) (yn0 := Y % 4294967296) (u := U) (un := T / 4294967296) (by omega) (by omega) (by omega) (by omega) (by omega) (by omega) (by omega) (by omega) (by omega)
 obtain ⟨k, hk⟩ := div64_l0 Y ((63 - j : Nat) : Int) (Y / 4294967296) (Y % 4294967296) (T / 4294967296) (T % 4294967296) U (by omega) (by omega) (by omega) _ _ _ i (Nat.lt_succ_self _)
 refine ⟨k, ?_⟩
 unfold bits_Div64.f
 have yn := i.n1
 have td : IntKind.u64.wrap (Int.tdiv U (Y / 4294967296)) = U / (Y / 4294967296) := by
  rw [Int.tdiv_eq_ediv_of_nonneg i.u0]
  exact u64_id _ (Int.ediv_nonneg i.u0 (by omega)) (Int.lt_of_le_of_lt (Int.ediv_le_self _ i.u0) (by omega))
 have m0 := Int.ediv_nonneg i.u0 (show 0 ≤ Y / 4294967296 by omega)
 have m1 := Int.ediv_mul_le U (show Y / 4294967296 ≠ 0 by omega)
 have m2 := Int.mul_nonneg m0 (show 0 ≤ Y / 4294967296 by omega)
 have aY : Go.bits .and .u64 Y 4294967295 = Y % 4294967296 := and_low32 Y (by omega) (by omega)
 have aT : Go.bits .and .u64 T 4294967295 = T % 4294967296 := and_low32 T (by omega) (by omega)
 rw [if_neg (by omega), if_neg (by omega), if_neg hz, elz, Option.bind_some, hs2, if_pos (by omega), hs3, if_pos (by omega), eshl y, hYY, hB, if_neg (by omega), eshl hi, hA, eshr lo, eor, eshl lo, hT, aY, aT, td,
  u64_id (U / (Y / 4294967296) * (Y / 4294967296)) m2 (by omega), u64_id (U - U / (Y / 4294967296) * (Y / 4294967296)) (by omega) (by omega), hk]
 have R1 := i.rest
 have QB := i.QB
 have Q0 := i.Q0
 generalize hQ : (U * 4294967296 + T / 4294967296) / Y = Q1 at *
 generalize hV : U * 4294967296 + T / 4294967296 - Q1 * Y = V at *
 have V0 : 0 ≤ (V * 4294967296 + T % 4294967296) / Y := Int.ediv_nonneg (by omega) (by omega)
 have V1 : (V * 4294967296 + T % 4294967296) / Y < 4294967296 := dv_lt _ _ _ (by omega) (by omega)
 have me := Int.emod_add_mul_ediv (V * 4294967296 + T % 4294967296) Y
 have me0 := Int.emod_nonneg (V * 4294967296 + T % 4294967296) (show Y ≠ 0 by omega)
 have me1 := Int.emod_lt_of_pos (V * 4294967296 + T % 4294967296) (show 0 < Y by omega)
 rw [Int.mul_comm Y _] at me
 generalize hQ2 : (V * 4294967296 + T % 4294967296) / Y = Q2 at *
 generalize hW : (V * 4294967296 + T % 4294967296) % Y = W at *
 have all : (hi * 18446744073709551616 + lo) * P = (Q1 * 4294967296 + Q2) * Y + W := by
  rw [nP, Int.add_mul, Int.mul_assoc, Int.mul_comm 4294967296 Y, ← Int.mul_assoc]
  omega
 have fq : (hi * 18446744073709551616 + lo) / y = Q1 * 4294967296 + Q2 := by
  rw [← qn, all]
  rw [Int.add_comm, Int.add_mul_ediv_right _ _ (by omega), Int.ediv_eq_zero_of_lt me0 me1, Int.zero_add]
 have fr : (hi * 18446744073709551616 + lo) % y * P = W := by
  rw [← rn, all, Int.add_comm, Int.add_mul_emod_self_right, Int.emod_eq_of_lt me0 me1]
 rw [u64_id (Q1 * 4294967296) (by omega) (by omega), u64_id (Q1 * 4294967296 + Q2) (by omega) (by omega), eshr2, show V * 4294967296 + T % 4294967296 - Q2 * Y = W by omega, fq, ← fr, Int.mul_ediv_cancel _ (by omega)]
def muldiv_divided.f (n0 : Int) (n1 : Int) (c : Int) : Option (Int × Int × Int) :=
 if (0 ≤ n0 ∧ n0 < 18446744073709551616) ∧ (0 ≤ n1 ∧ n1 < 18446744073709551616) ∧ (0 < c ∧ c < 18446744073709551616) then
  some (n0 / c, (n0 % c * 18446744073709551616 + n1) / c, (n0 % c * 18446744073709551616 + n1) % c) else none
set_option maxHeartbeats 4000000 in
set_option maxRecDepth 100000 in
theorem muldiv_divided.walk (n0 n1 c q0 l0 q1 l1 : Int) (k1 k2 : Nat) (w : World) (h0 : bits_Div64.f k1 0 n0 c = some (q0, l0)) (h1 : bits_Div64.f k2 l0 n1 c = some (q1, l1)) :
  Calls Try.prog 62 #[.agg #[.int .u64 n0, .int .u64 n1], .int .u64 c] w fun e w' => e = .returned (.tuple #[.agg #[.int .u64 q0, .int .u64 q1], .int .u64 l1]) ∧ Below w.heap.size w w' := by
 have hu62 := Try.underlying106
 have A0 := Aside0.mk h0
 have A1 := Aside0.mk h1
 clear h0 h1
 go_enter Try.func62, Try.ntmps62
 go_wp2
 refine wp_scope_jumps 0 (fun a' w' => ∃ (n : Nat) (u9 u10 u11 u12 u13 u14 u15 u16 u17 u18 u19 u20 u21 u22 u23 u24 u25 : Value), a' = { tmps := #[.agg #[.int .u64 n0, .int .u64 n1], .int .u64 c, .pointer (some ⟨w.heap.size, 0, none⟩), undef, .pointer (some ⟨w.heap.size + 1, 0, none⟩), .int .u64 0, .pointer (some ⟨w.heap.size + 1 + 1, 0, none⟩), .int .u64 l0, .int .i64 1, u9, u10, u11, u12, u13, u14, u15, u16, u17, u18, u19, u20, u21, u22, u23, u24, u25], defers := [] } ∧
   w' = (((((w.alloc (.cells #[.int .u64 n0, .int .u64 n1] 106)).alloc (.cells #[.int .u64 0, .int .u64 0] 106)).alloc (.cells #[.int .u64 0, .int .u64 0] 106)).drewN n).setCell ⟨w.heap.size + 1 + 1, 0, none⟩ (.int .u64 q0))) (fun a' _ => 0) rfl ?_ ?_
 ·go_wp2
  go_step3
  go_wp2_with (go_at_call 65; (with_reducible refine (bits_Div64.calls k1 0 n0 c q0 l0 _ A0.out).mono ?_); rintro e w' ⟨rfl, hd⟩; obtain ⟨n, rfl⟩ := hd.out)
  go_step3
  exact ⟨rfl, n, _, _, _, _, _, _, _, _, _, _, _, _, _, _, _, _, _, rfl, rfl⟩
 ·rintro a' w' ⟨n, u9, u10, u11, u12, u13, u14, u15, u16, u17, u18, u19, u20, u21, u22, u23, u24, u25, rfl, rfl⟩
  go_wp2_with (go_at_call 65; (with_reducible refine (bits_Div64.calls k2 l0 n1 c q1 l1 _ A1.out).mono ?_); rintro e w' ⟨rfl, hd⟩; obtain ⟨n2, rfl⟩ := hd.out)
  simp only [Exit.jump]
  refine bodyPost_ret (v := .tuple #[.agg #[.int .u64 q0, .int .u64 q1], .int .u64 l1]) (by simp [results, Try.results62, go_sem]) rfl ⟨rfl, ?_⟩
  repeat (first | refine Below.setCell ?_ (by simp; try omega) _ | apply pw_below_drewN | refine Below.alloc ?_ (by simp; try omega) _ | exact Below.refl _ _)
theorem muldiv_divided.calls (a0_0 : Int) (a0_1 : Int) (a1 : Int) (r1 : Int) (r2 : Int) (r3 : Int) (w : World) (h : muldiv_divided.f a0_0 a0_1 a1 = some (r1, r2, r3)) :
  Calls Try.prog 62 #[.agg #[.int .u64 a0_0, .int .u64 a0_1], .int .u64 a1] w fun e w' => e = .returned (.tuple #[.agg #[.int .u64 r1, .int .u64 r2], .int .u64 r3]) ∧ Below w.heap.size w w' := by
 unfold muldiv_divided.f at h
 split at h
 ·rename_i hb
  obtain ⟨⟨a, b⟩, ⟨c, d⟩, p, q⟩ := hb
  obtain ⟨k1, h1⟩ := div64_spec 0 a0_0 a1 (by omega) p q a b
  obtain ⟨k2, h2⟩ := div64_spec (a0_0 % a1) a0_1 a1 (Int.emod_nonneg _ (by omega)) (Int.emod_lt_of_pos _ p) q c d
  rw [Int.zero_mul, Int.zero_add] at h1
  simp only [Option.some.injEq, Prod.mk.injEq] at h
  obtain ⟨rfl, rfl, rfl⟩ := h
  exact muldiv_divided.walk _ _ _ _ _ _ _ k1 k2 w h1 h2
 ·cases h
end Go.Proofs.Ytlgfnclgkhfhpaa.P
end

section
namespace Go.Proofs.Ytlgfnclgkhfhpaa.P
open Go.RowKit Go.Proofs.YtlgfnclgkhfhpaaW.PrintWords Go.Proofs.YtlgfnclgkhfhpaaW.PrintLast Go.Proofs.YtlgfnclgkhfhpaaW.PrintMore
attribute [local go_sem] max2_int min2_int max_two min_two max_three min_three max_four min_four   -- for this text's walks alone
set_option linter.unusedVariables false
set_option linter.unusedSimpArgs false
def muldiv_up.f (a0 : Int) (a1 : Int) (a2 : Bool) (a3 : Int) : Option (Bool) := if a3 = 1 then (if a2 = true then (some (decide (a0 > 0))) else (some false)) else (if a3 = 3 then (if a2 = true then (some false) else (some (decide (a0 > 0)))) else (if a2 = true then (some (decide (a0 > (IntKind.u64.wrap (a1 - a0))))) else (if a0 > 0 then (some (decide (a0 ≥ (IntKind.u64.wrap (a1 - a0))))) else (some false))))
set_option maxHeartbeats 8000000 in
set_option maxRecDepth 100000 in
theorem muldiv_up.calls (a0 : Int) (a1 : Int) (a2 : Bool) (a3 : Int) (r : Bool) (w : World) (h : muldiv_up.f a0 a1 a2 a3 = some r) :
  Calls Try.prog 63 #[.int .u64 a0, .int .u64 a1, .bool a2, .int .i64 a3] w fun e w' => e = .returned (.bool r) ∧ Drawn0 w w' := by
 have H : (if a3 = 1 then (if a2 = true then (some (decide (a0 > 0))) else (some false)) else (if a3 = 3 then (if a2 = true then (some false) else (some (decide (a0 > 0)))) else (if a2 = true then (some (decide (a0 > (IntKind.u64.wrap (a1 - a0))))) else (if a0 > 0 then (some (decide (a0 ≥ (IntKind.u64.wrap (a1 - a0))))) else (some false))))) = some r := h
 clear h
 by_cases c5 : a3 = 1
 ·rw [if_pos c5] at H
  have c5b0 : (a3 == 1) = true := beq_iff_eq.mpr c5
  have c5b1 : (a3 != 1) = false := bne_eq_false_iff_eq.mpr c5
  clear c5
  by_cases c6 : a2 = true
  ·subst c6
   have H1 : (some (decide (a0 > 0))) = some r := by rw [if_pos rfl] at H; exact H
   clear H
   have H := H1
   clear H1
   obtain rfl := Option.some.inj H
   go_enter Try.func63, Try.ntmps63
   go_wp2
   go_ret
   exact ⟨by first | rfl | (simp; done) | (simp [*]; done), by repeat (first | exact Drawn0.refl _ | apply Drawn0.step)⟩
  ·replace c6 := Bool.eq_false_iff.mpr c6
   subst c6
   have H1 : (some false) = some r := by rw [if_neg (show ¬ (false = true) by decide)] at H; exact H
   clear H
   have H := H1
   clear H1
   obtain rfl := Option.some.inj H
   go_enter Try.func63, Try.ntmps63
   go_wp2
   go_ret
   exact ⟨by first | rfl | (simp; done) | (simp [*]; done), by repeat (first | exact Drawn0.refl _ | apply Drawn0.step)⟩
 ·rw [if_neg c5] at H
  have c5b0 : (a3 == 1) = false := beq_eq_false_iff_ne.mpr c5
  have c5b1 : (a3 != 1) = true := bne_iff_ne.mpr c5
  by_cases c7 : a3 = 3
  ·rw [if_pos c7] at H
   have c7b0 : (a3 == 3) = true := beq_iff_eq.mpr c7
   have c7b1 : (a3 != 3) = false := bne_eq_false_iff_eq.mpr c7
   clear c7
   by_cases c8 : a2 = true
   ·subst c8
    have H1 : (some false) = some r := by rw [if_pos rfl] at H; exact H
    clear H
    have H := H1
    clear H1
    obtain rfl := Option.some.inj H
    go_enter Try.func63, Try.ntmps63
    go_wp2
    go_ret
    exact ⟨by first | rfl | (simp; done) | (simp [*]; done), by repeat (first | exact Drawn0.refl _ | apply Drawn0.step)⟩
   ·replace c8 := Bool.eq_false_iff.mpr c8
    subst c8
    have H1 : (some (decide (a0 > 0))) = some r := by rw [if_neg (show ¬ (false = true) by decide)] at H; exact H
    clear H
    have H := H1
    clear H1
    obtain rfl := Option.some.inj H
    go_enter Try.func63, Try.ntmps63
    go_wp2
    go_ret
    exact ⟨by first | rfl | (simp; done) | (simp [*]; done), by repeat (first | exact Drawn0.refl _ | apply Drawn0.step)⟩
  ·rw [if_neg c7] at H
   have c7b0 : (a3 == 3) = false := beq_eq_false_iff_ne.mpr c7
   have c7b1 : (a3 != 3) = true := bne_iff_ne.mpr c7
   by_cases c9 : a2 = true
   ·subst c9
    have H1 : (some (decide (a0 > (IntKind.u64.wrap (a1 - a0))))) = some r := by rw [if_pos rfl] at H; exact H
    clear H
    have H := H1
    clear H1
    obtain rfl := Option.some.inj H
    go_enter Try.func63, Try.ntmps63
    go_wp2
    go_ret
    exact ⟨by first | rfl | (simp; done) | (simp [*]; done), by repeat (first | exact Drawn0.refl _ | apply Drawn0.step)⟩
   ·replace c9 := Bool.eq_false_iff.mpr c9
    subst c9
    have H1 : (if a0 > 0 then (some (decide (a0 ≥ (IntKind.u64.wrap (a1 - a0))))) else (some false)) = some r := by rw [if_neg (show ¬ (false = true) by decide)] at H; exact H
    clear H
    have H := H1
    clear H1
    by_cases c10 : a0 > 0
    ·rw [if_pos c10] at H
     have c10b0 : decide (0 < a0) = true := decide_eq_true c10
     clear c10
     obtain rfl := Option.some.inj H
     go_enter Try.func63, Try.ntmps63
     go_wp2
     go_ret
     exact ⟨by first | rfl | (simp; done) | (simp [*]; done), by repeat (first | exact Drawn0.refl _ | apply Drawn0.step)⟩
    ·rw [if_neg c10] at H
     have c10b0 : decide (0 < a0) = false := decide_eq_false c10
     clear c10
     obtain rfl := Option.some.inj H
     go_enter Try.func63, Try.ntmps63
     go_wp2
     go_ret
     exact ⟨by first | rfl | (simp; done) | (simp [*]; done), by repeat (first | exact Drawn0.refl _ | apply Drawn0.step)⟩
def add64s (x y c : Int) : Int := (((x.toNat + y.toNat + c.toNat) % 18446744073709551616 : Nat) : Int)
def add64c (x y c : Int) : Int := (((x.toNat + y.toNat + c.toNat) / 18446744073709551616 : Nat) : Int)
theorem run_add64_any (x y c : Int) (hc : c ≤ 1) (w : World) :
  (callFunc 64 #[.int .u64 x, .int .u64 y, .int .u64 c]).run Try.prog w = .ok (.value (.tuple #[.int .u64 (add64s x y c), .int .u64 (add64c x y c)])) w := by
 rw [run_callFunc_extern Try.func64 (by kernel_rfl) (by kernel_rfl) (by kernel_rfl) (e := add64Entry) (by kernel_rfl)]
 have key : (add64Entry #[.int .u64 x, .int .u64 y, .int .u64 c]).run Try.prog w = .ok (.tuple #[.int .u64 (add64s x y c), .int .u64 (add64c x y c)]) w := by
  cases c with
  | ofNat k =>
   have hk : k = 0 ∨ k = 1 := by have : ((k : Nat) : Int) ≤ 1 := hc; omega
   rcases hk with rfl | rfl <;> rfl
  | negSucc n => rfl
 rw [key]
 rfl
theorem run_add64_0 (x y : Int) (w : World) :
  (callFunc 64 #[.int .u64 x, .int .u64 y, .int .u64 0]).run Try.prog w = .ok (.value (.tuple #[.int .u64 (add64s x y 0), .int .u64 (add64c x y 0)])) w := run_add64_any x y 0 (by decide) w
theorem run_add64_c (x y c : Int) (hc : decide (c ≤ 1) = true) (w : World) :
  (callFunc 64 #[.int .u64 x, .int .u64 y, .int .u64 c]).run Try.prog w = .ok (.value (.tuple #[.int .u64 (add64s x y c), .int .u64 (add64c x y c)])) w := run_add64_any x y c (of_decide_eq_true hc) w
end Go.Proofs.Ytlgfnclgkhfhpaa.P
end

section
namespace Go.Proofs.Ytlgfnclgkhfhpaa.P
open Go.RowKit Go.Proofs.YtlgfnclgkhfhpaaW.PrintWords Go.Proofs.YtlgfnclgkhfhpaaW.PrintLast Go.Proofs.YtlgfnclgkhfhpaaW.PrintMore
attribute [local go_sem] max2_int min2_int max_two min_two max_three min_three max_four min_four   -- for this text's walks alone
set_option linter.unusedVariables false
set_option linter.unusedSimpArgs false
mutual
def muldiv_quotient.j0 : Nat → Int → Int → Int → Int → Bool → Option (Int × Bool)
 | 0, _, _, _, _, _ => none
 | k + 1, x0, x1, x2, x3, x26 => if x26 = true then (some (0, false)) else ((muldiv_size.f x0).bind fun t104 => ((muldiv_size.f x1).bind fun t105 => ((bits_Mul64.f t104 t105).bind fun bt106 => (if x0 < 0 then (if x1 < 0 then (if x2 < 0 then (muldiv_quotient.j1 k x2 x3 true bt106.1 bt106.2) else (muldiv_quotient.j1 k x2 x3 false bt106.1 bt106.2)) else (if x2 < 0 then (muldiv_quotient.j1 k x2 x3 false bt106.1 bt106.2) else (muldiv_quotient.j1 k x2 x3 true bt106.1 bt106.2))) else (if x1 < 0 then (if x2 < 0 then (muldiv_quotient.j1 k x2 x3 false bt106.1 bt106.2) else (muldiv_quotient.j1 k x2 x3 true bt106.1 bt106.2)) else (if x2 < 0 then (muldiv_quotient.j1 k x2 x3 true bt106.1 bt106.2) else (muldiv_quotient.j1 k x2 x3 false bt106.1 bt106.2)))))))
def muldiv_quotient.j1 : Nat → Int → Int → Bool → Int → Int → Option (Int × Bool)
 | 0, _, _, _, _, _ => none
 | k + 1, x2, x3, x11, x104000, x104001 => (muldiv_size.f x2).bind fun t108 => ((muldiv_divided.f x104000 x104001 t108).bind fun bt109 => ((muldiv_size.f x2).bind fun t113 => ((muldiv_up.f bt109.2.2 t113 x11 x3).bind fun t114 => (if t114 = true then (muldiv_quotient.j2 k x11 (IntKind.u64.wrap (bt109.1 + (add64c bt109.2.1 1 0))) (add64s bt109.2.1 1 0)) else (muldiv_quotient.j2 k x11 bt109.1 bt109.2.1)))))
def muldiv_quotient.j2 : Nat → Bool → Int → Int → Option (Int × Bool)
 | 0, _, _, _ => none
 | k + 1, x11, x113000, x113001 => if x11 = true then (muldiv_quotient.j3 k x11 (9223372036854775807 + 1) x113000 x113001) else (muldiv_quotient.j3 k x11 9223372036854775807 x113000 x113001)
def muldiv_quotient.j3 : Nat → Bool → Int → Int → Int → Option (Int × Bool)
 | 0, _, _, _, _ => none
 | k + 1, x11, x16, x113000, x113001 => if x113000 > 0 then (muldiv_quotient.j4 k x11 true x113000 x113001) else (muldiv_quotient.j4 k x11 (decide (x113001 > x16)) x113000 x113001)
def muldiv_quotient.j4 : Nat → Bool → Bool → Int → Int → Option (Int × Bool)
 | 0, _, _, _, _ => none
 | k + 1, x11, x73, x113000, x113001 => if x73 = true then (if x11 = true then (some ((-9223372036854775808), false)) else (some (9223372036854775807, false))) else (if x11 = true then (some (wrap64 (IntKind.u64.wrap (-x113001)), true)) else (some (wrap64 (x113001), true)))
end
def muldiv_quotient.f (k : Nat) (a0 : Int) (a1 : Int) (a2 : Int) (a3 : Int) : Option (Int × Bool) := if a2 = 0 then (muldiv_quotient.j0 k a0 a1 a2 a3 true) else (if a3 < 1 then (muldiv_quotient.j0 k a0 a1 a2 a3 true) else (muldiv_quotient.j0 k a0 a1 a2 a3 (decide (a3 > 3))))
def muldiv_quotient.T6 : Bool × List (List Nat × List Nat) := (true, [([], []), ([], []), ([1], [1]), ([0, 2, 2], [0, 2]), ([3], [3]), ([4], [4]), ([4], [4]), ([], []), ([7, 5, 3, 0, 1, 2, 3, 4, 5, 7], [5, 7]), ([6, 8, 0, 1, 2, 3, 4, 5, 6, 7, 8], [6])])
def muldiv_quotient.B6 : List Nat := [0, 0, 2, 7, 15, 31, 31, 0, 191, 511]
theorem muldiv_quotient.tab6 : rtab .any (opsOf Try.f55 6) = muldiv_quotient.T6 := by kernel_rfl
theorem muldiv_quotient.bits6 : waitsOk muldiv_quotient.T6.2 muldiv_quotient.B6 = true := by kernel_rfl
set_option maxHeartbeats 8000000 in
set_option maxRecDepth 100000 in
theorem muldiv_quotient.calls (k : Nat) (a0 : Int) (a1 : Int) (a2 : Int) (a3 : Int) (r1 : Int) (r2 : Bool) (w : World) (h : muldiv_quotient.f k a0 a1 a2 a3 = some (r1, r2)) :
  Calls Try.prog 55 #[.int .i64 a0, .int .i64 a1, .int .i64 a2, .int .i64 a3] w fun e w' => e = .returned (.tuple #[.int .i64 r1, .bool r2]) ∧ Below w.heap.size w w' := by
 have hu106 := Try.underlying106
 have hext_add64_0 := @run_add64_0
 have hext_add64_c := @run_add64_c
 have HB := Aside0.mk (Below.refl w.heap.size w)
 have H : (if a2 = 0 then (muldiv_quotient.j0 k a0 a1 a2 a3 true) else (if a3 < 1 then (muldiv_quotient.j0 k a0 a1 a2 a3 true) else (muldiv_quotient.j0 k a0 a1 a2 a3 (decide (a3 > 3))))) = some (r1, r2) := h
 clear h
 have HC5 := Aside0.mk H
 clear H
 go_enter Try.func55, Try.ntmps55
 go_upto_region 1 with (fail)
 go_cut [26] (fun v26 wc => ∃ (kq : Nat) (x26_4 : Bool), v26 = .bool x26_4 ∧ Aside0 (muldiv_quotient.j0 kq a0 a1 a2 a3 x26_4 = some (r1, r2)) ∧ Aside0 (kq ≤ k) ∧ Aside0 (Below w.heap.size w wc))
 case first =>
  have H := HC5.out
  clear HC5
  by_cases c6 : a2 = 0
  ·rw [if_pos c6] at H
   have c6b0 : (a2 == 0) = true := beq_iff_eq.mpr c6
   have c6b1 : (a2 != 0) = false := bne_eq_false_iff_eq.mpr c6
   clear c6
   (first | rw [c6b0] | (simp only [i64_w, i32_w]; rw [c6b0]) | skip)
   have H' := Aside0.mk H
   clear H
   go_wp2
   go_meet
   case rel => exact ⟨_, (true), (by first | rfl | (simp; done) | (simp [*]; done)), H', ⟨by first | omega | exact Nat.le_refl _⟩, ⟨by repeat (first | (with_reducible first | exact HB.out | apply below_alloc | apply pw_below_drewN | apply below_drew1) | exact HB.out)⟩⟩
  ·rw [if_neg c6] at H
   have c6b0 : (a2 == 0) = false := beq_eq_false_iff_ne.mpr c6
   have c6b1 : (a2 != 0) = true := bne_iff_ne.mpr c6
   (first | rw [c6b0] | (simp only [i64_w, i32_w]; rw [c6b0]) | skip)
   by_cases c7 : a3 < 1
   ·rw [if_pos c7] at H
    have c7b0 : decide (a3 < 1) = true := decide_eq_true c7
    clear c7
    have H' := Aside0.mk H
    clear H
    go_wp2
    go_meet
    case rel => exact ⟨_, (true), (by first | rfl | (simp; done) | (simp [*]; done)), H', ⟨by first | omega | exact Nat.le_refl _⟩, ⟨by repeat (first | (with_reducible first | exact HB.out | apply below_alloc | apply pw_below_drewN | apply below_drew1) | exact HB.out)⟩⟩
   ·rw [if_neg c7] at H
    have c7b0 : decide (a3 < 1) = false := decide_eq_false c7
    clear c7
    have H' := Aside0.mk H
    clear H
    go_wp2
    go_meet
    case rel => exact ⟨_, (decide (a3 > 3)), (by first | rfl | (simp; done) | (simp [*]; done)), H', ⟨by first | omega | exact Nat.le_refl _⟩, ⟨by repeat (first | (with_reducible first | exact HB.out | apply below_alloc | apply pw_below_drewN | apply below_drew1) | exact HB.out)⟩⟩
 case rest =>
  clear HC5
  try clear p2
  try clear c5
  try clear c6
  try clear c6b0
  try clear c6b1
  try clear c7
  try clear c7b0
  obtain ⟨kq, x26_4, rfl, HA, HJ4, HB⟩ := hcut
  cases kq with
  | zero => exact absurd HA.out (by simp [muldiv_quotient.j0])
  | succ kj4 =>
   have H := HA.out
   clear HA
   simp only [muldiv_quotient.j0] at H
   by_cases c8 : x26_4 = true
   ·subst c8
    have H1 : (some (0, false)) = some (r1, r2) := by rw [if_pos rfl] at H; exact H
    clear H
    have H := H1
    clear H1
    simp only [Option.some.injEq, Prod.mk.injEq] at H
    obtain ⟨rfl, rfl⟩ := H
    go_wp2
    go_ret2
    exact ⟨by first | rfl | (simp [errW_none, errW_some] <;> rfl) | (simp [*, errW_none, errW_some] <;> rfl), by repeat (first | (with_reducible first | exact HB.out | apply below_alloc | apply pw_below_drewN | apply below_drew1) | exact HB.out)⟩
   ·replace c8 := Bool.eq_false_iff.mpr c8
    subst c8
    have H1 : ((muldiv_size.f a0).bind fun t104 => ((muldiv_size.f a1).bind fun t105 => ((bits_Mul64.f t104 t105).bind fun bt106 => (if a0 < 0 then (if a1 < 0 then (if a2 < 0 then (muldiv_quotient.j1 kj4 a2 a3 true bt106.1 bt106.2) else (muldiv_quotient.j1 kj4 a2 a3 false bt106.1 bt106.2)) else (if a2 < 0 then (muldiv_quotient.j1 kj4 a2 a3 false bt106.1 bt106.2) else (muldiv_quotient.j1 kj4 a2 a3 true bt106.1 bt106.2))) else (if a1 < 0 then (if a2 < 0 then (muldiv_quotient.j1 kj4 a2 a3 false bt106.1 bt106.2) else (muldiv_quotient.j1 kj4 a2 a3 true bt106.1 bt106.2)) else (if a2 < 0 then (muldiv_quotient.j1 kj4 a2 a3 true bt106.1 bt106.2) else (muldiv_quotient.j1 kj4 a2 a3 false bt106.1 bt106.2))))))) = some (r1, r2) := by rw [if_neg (show ¬ (false = true) by decide)] at H; exact H
    clear H
    have H := H1
    clear H1
    replace H := Option.bind_eq_some_iff.mp H
    obtain ⟨t104, A90, H⟩ := H
    replace H : ((muldiv_size.f a1).bind fun t105 => ((bits_Mul64.f t104 t105).bind fun bt106 => (if a0 < 0 then (if a1 < 0 then (if a2 < 0 then (muldiv_quotient.j1 kj4 a2 a3 true bt106.1 bt106.2) else (muldiv_quotient.j1 kj4 a2 a3 false bt106.1 bt106.2)) else (if a2 < 0 then (muldiv_quotient.j1 kj4 a2 a3 false bt106.1 bt106.2) else (muldiv_quotient.j1 kj4 a2 a3 true bt106.1 bt106.2))) else (if a1 < 0 then (if a2 < 0 then (muldiv_quotient.j1 kj4 a2 a3 false bt106.1 bt106.2) else (muldiv_quotient.j1 kj4 a2 a3 true bt106.1 bt106.2)) else (if a2 < 0 then (muldiv_quotient.j1 kj4 a2 a3 true bt106.1 bt106.2) else (muldiv_quotient.j1 kj4 a2 a3 false bt106.1 bt106.2)))))) = some (r1, r2) := H
    have A9 := Aside0.mk A90
    clear A90
    replace H := Option.bind_eq_some_iff.mp H
    obtain ⟨t105, A100, H⟩ := H
    replace H : ((bits_Mul64.f t104 t105).bind fun bt106 => (if a0 < 0 then (if a1 < 0 then (if a2 < 0 then (muldiv_quotient.j1 kj4 a2 a3 true bt106.1 bt106.2) else (muldiv_quotient.j1 kj4 a2 a3 false bt106.1 bt106.2)) else (if a2 < 0 then (muldiv_quotient.j1 kj4 a2 a3 false bt106.1 bt106.2) else (muldiv_quotient.j1 kj4 a2 a3 true bt106.1 bt106.2))) else (if a1 < 0 then (if a2 < 0 then (muldiv_quotient.j1 kj4 a2 a3 false bt106.1 bt106.2) else (muldiv_quotient.j1 kj4 a2 a3 true bt106.1 bt106.2)) else (if a2 < 0 then (muldiv_quotient.j1 kj4 a2 a3 true bt106.1 bt106.2) else (muldiv_quotient.j1 kj4 a2 a3 false bt106.1 bt106.2))))) = some (r1, r2) := H
    have A10 := Aside0.mk A100
    clear A100
    replace H := Option.bind_eq_some_iff.mp H
    obtain ⟨⟨t106, t107⟩, A110, H⟩ := H
    replace H : (if a0 < 0 then (if a1 < 0 then (if a2 < 0 then (muldiv_quotient.j1 kj4 a2 a3 true t106 t107) else (muldiv_quotient.j1 kj4 a2 a3 false t106 t107)) else (if a2 < 0 then (muldiv_quotient.j1 kj4 a2 a3 false t106 t107) else (muldiv_quotient.j1 kj4 a2 a3 true t106 t107))) else (if a1 < 0 then (if a2 < 0 then (muldiv_quotient.j1 kj4 a2 a3 false t106 t107) else (muldiv_quotient.j1 kj4 a2 a3 true t106 t107)) else (if a2 < 0 then (muldiv_quotient.j1 kj4 a2 a3 true t106 t107) else (muldiv_quotient.j1 kj4 a2 a3 false t106 t107)))) = some (r1, r2) := H
    have A11 := Aside0.mk A110
    clear A110
    have HC12 := Aside0.mk H
    clear H
    go_upto_region 5 with (first | ((with_reducible refine gate_dst (N := 10) rfl ?_); refine box_event ?hg (N := 10) ?hd (cs := #[.int .u64 0, .int .u64 0]) (t := 106) ?hr ?_; (case hd => rfl); (case hg => rfl); (case hr => first | (go_simp; done) | (go_simp; rfl)); intro gb103 hg w13 hbox hb; have n0_ := Aside0.mk (below_step (by repeat (first | (with_reducible first | exact HB.out | apply below_alloc | apply pw_below_drewN | apply below_drew1) | exact HB.out)) hb); have n1_ := Aside0.mk (hbox); have n2_ := Aside0.mk ((by rw [hg]; exact (below_size (by repeat (first | (with_reducible first | exact HB.out | apply below_alloc | apply pw_below_drewN | apply below_drew1) | exact HB.out))) : w.heap.size ≤ gb103)); have n3_ := Aside0.mk ((by rw [hg]; exact (below_size (by repeat (first | (with_reducible first | exact HB.out | apply below_alloc | apply pw_below_drewN | apply below_drew1) | exact HB.out))) : w.heap.size ≤ gb103)); clear HB; have HB := n0_; have BK103 := n1_; have GW103 := n2_; have GE103 := n3_; clear n0_ n1_ n2_ n3_; clear hb hbox hg) | ((with_reducible refine gate_callee (f := 61) rfl ?_); refine goesL_ (some 29) rfl rfl Try.func61 (by kernel_rfl) rfl #[.int .i64 a0] rfl (by (try simp only [List.map_toArray, List.map_cons, List.map_nil]); first | done | rfl | (simp only [List.length_drop, List.length_take]; rfl)) ?_; (with_reducible refine (muldiv_size.calls a0 t104 _ A9.out).mono ?_); rintro e w' ⟨rfl, ⟨nd, rfl⟩⟩; refine ⟨_, rfl, ?_⟩; (try (rw [drewN_self w13]; generalize hq_ : World.drewN w13 _ = w13; have n0_ : Aside0 (w13.heap[gb103]? = some (.cells #[.int .u64 0, .int .u64 0] 106 (0, 0))) := ⟨by rw [← hq_]; exact (by (with_reducible repeat (first | refine blk_drewN ?_ _ | refine blk_drew ?_ | refine blk_alloc ?_ _)); exact BK103.out)⟩; have n1_ : Aside0 (Below w.heap.size w w13) := ⟨by rw [← hq_]; exact (by repeat (first | (with_reducible first | exact HB.out | apply below_alloc | apply pw_below_drewN | apply below_drew1 | refine below_set ?_ GE103.out) | exact HB.out))⟩; clear BK103 HB hq_; have BK103 := n0_; have HB := n1_; clear n0_ n1_))) | ((with_reducible refine gate_callee (f := 61) rfl ?_); refine goesL_ (some 31) rfl rfl Try.func61 (by kernel_rfl) rfl #[.int .i64 a1] rfl (by (try simp only [List.map_toArray, List.map_cons, List.map_nil]); first | done | rfl | (simp only [List.length_drop, List.length_take]; rfl)) ?_; (with_reducible refine (muldiv_size.calls a1 t105 _ A10.out).mono ?_); rintro e w' ⟨rfl, ⟨nd, rfl⟩⟩; refine ⟨_, rfl, ?_⟩; (try (rw [drewN_self w13]; generalize hq_ : World.drewN w13 _ = w13; have n0_ : Aside0 (w13.heap[gb103]? = some (.cells #[.int .u64 0, .int .u64 0] 106 (0, 0))) := ⟨by rw [← hq_]; exact (by (with_reducible repeat (first | refine blk_drewN ?_ _ | refine blk_drew ?_ | refine blk_alloc ?_ _)); exact BK103.out)⟩; have n1_ : Aside0 (Below w.heap.size w w13) := ⟨by rw [← hq_]; exact (by repeat (first | (with_reducible first | exact HB.out | apply below_alloc | apply pw_below_drewN | apply below_drew1 | refine below_set ?_ GE103.out) | exact HB.out))⟩; clear BK103 HB hq_; have BK103 := n0_; have HB := n1_; clear n0_ n1_))) | ((with_reducible refine gate_callee (f := 60) rfl ?_); refine goesL_ (some 32) rfl rfl Try.func60 (by kernel_rfl) rfl #[.int .u64 t104, .int .u64 t105] rfl (by (try simp only [List.map_toArray, List.map_cons, List.map_nil]); first | done | rfl | (simp only [List.length_drop, List.length_take]; rfl)) ?_; (with_reducible refine (bits_Mul64.calls t104 t105 t106 t107 _ A11.out).mono ?_); rintro e w' ⟨rfl, ⟨nd, rfl⟩⟩; refine ⟨_, rfl, ?_⟩; (try (rw [drewN_self w13]; generalize hq_ : World.drewN w13 _ = w13; have n0_ : Aside0 (w13.heap[gb103]? = some (.cells #[.int .u64 0, .int .u64 0] 106 (0, 0))) := ⟨by rw [← hq_]; exact (by (with_reducible repeat (first | refine blk_drewN ?_ _ | refine blk_drew ?_ | refine blk_alloc ?_ _)); exact BK103.out)⟩; have n1_ : Aside0 (Below w.heap.size w w13) := ⟨by rw [← hq_]; exact (by repeat (first | (with_reducible first | exact HB.out | apply below_alloc | apply pw_below_drewN | apply below_drew1 | refine below_set ?_ GE103.out) | exact HB.out))⟩; clear BK103 HB hq_; have BK103 := n0_; have HB := n1_; clear n0_ n1_)); have hcz14_0 : w13.cell? ⟨gb103, 0, none⟩ = some (.int .u64 0) := (blk_cell BK103.out 0).trans rfl; have hcz14_1 : w13.cell? ⟨gb103, 1, none⟩ = some (.int .u64 0) := (blk_cell BK103.out 1).trans rfl; have hfz14_0 := blk_frozen BK103.out 0; have hfz14_1 := blk_frozen BK103.out 1))
    (try simp only [Act.put, List.setIfInBounds_toArray, List.set_cons_zero, List.set_cons_succ])
    go_cut [11] (fun v11 wc => ∃ (kq : Nat) (x11_11 : Bool), v11 = .bool x11_11 ∧ Aside0 (muldiv_quotient.j1 kq a2 a3 x11_11 t106 t107 = some (r1, r2)) ∧ Aside0 (kq ≤ kj4) ∧ Aside0 (wc.heap[gb103]? = some (.cells #[.int .u64 t106, .int .u64 t107] 106 (0, 0))) ∧ Aside0 (Below w.heap.size w wc))
    case first =>
     have H := HC12.out
     clear HC12
     by_cases c15 : a0 < 0
     ·rw [if_pos c15] at H
      have c15b0 : decide (a0 < 0) = true := decide_eq_true c15
      clear c15
      (first | rw [c15b0] | (simp only [i64_w, i32_w]; rw [c15b0]) | skip)
      by_cases c16 : a1 < 0
      ·rw [if_pos c16] at H
       have c16b0 : decide (a1 < 0) = true := decide_eq_true c16
       clear c16
       by_cases c17 : a2 < 0
       ·rw [if_pos c17] at H
        have c17b0 : decide (a2 < 0) = true := decide_eq_true c17
        clear c17
        have H' := Aside0.mk H
        clear H
        go_wp2
        go_meet
        case rel => exact ⟨_, (true), (by first | rfl | (simp; done) | (simp [*]; done)), H', ⟨by have := HJ4.out; first | omega | exact Nat.le_refl _⟩, ⟨by (with_reducible repeat (first | refine blk_drewN ?_ _ | refine blk_drew ?_ | refine blk_alloc ?_ _)); refine blk_put (cs := #[.int .u64 t106, .int .u64 0]) ?_ 1 _ rfl; (with_reducible repeat (first | refine blk_drewN ?_ _ | refine blk_drew ?_ | refine blk_alloc ?_ _)); refine blk_put (cs := #[.int .u64 0, .int .u64 0]) ?_ 0 _ rfl; (with_reducible repeat (first | refine blk_drewN ?_ _ | refine blk_drew ?_ | refine blk_alloc ?_ _)); exact BK103.out⟩, ⟨by repeat (first | (with_reducible first | exact HB.out | apply below_alloc | apply pw_below_drewN | apply below_drew1 | refine below_set ?_ GE103.out) | exact HB.out)⟩⟩
       ·rw [if_neg c17] at H
        have c17b0 : decide (a2 < 0) = false := decide_eq_false c17
        clear c17
        have H' := Aside0.mk H
        clear H
        go_wp2
        go_meet
        case rel => exact ⟨_, (false), (by first | rfl | (simp; done) | (simp [*]; done)), H', ⟨by have := HJ4.out; first | omega | exact Nat.le_refl _⟩, ⟨by (with_reducible repeat (first | refine blk_drewN ?_ _ | refine blk_drew ?_ | refine blk_alloc ?_ _)); refine blk_put (cs := #[.int .u64 t106, .int .u64 0]) ?_ 1 _ rfl; (with_reducible repeat (first | refine blk_drewN ?_ _ | refine blk_drew ?_ | refine blk_alloc ?_ _)); refine blk_put (cs := #[.int .u64 0, .int .u64 0]) ?_ 0 _ rfl; (with_reducible repeat (first | refine blk_drewN ?_ _ | refine blk_drew ?_ | refine blk_alloc ?_ _)); exact BK103.out⟩, ⟨by repeat (first | (with_reducible first | exact HB.out | apply below_alloc | apply pw_below_drewN | apply below_drew1 | refine below_set ?_ GE103.out) | exact HB.out)⟩⟩
      ·rw [if_neg c16] at H
       have c16b0 : decide (a1 < 0) = false := decide_eq_false c16
       clear c16
       by_cases c18 : a2 < 0
       ·rw [if_pos c18] at H
        have c18b0 : decide (a2 < 0) = true := decide_eq_true c18
        clear c18
        have H' := Aside0.mk H
        clear H
        go_wp2
        go_meet
        case rel => exact ⟨_, (false), (by first | rfl | (simp; done) | (simp [*]; done)), H', ⟨by have := HJ4.out; first | omega | exact Nat.le_refl _⟩, ⟨by (with_reducible repeat (first | refine blk_drewN ?_ _ | refine blk_drew ?_ | refine blk_alloc ?_ _)); refine blk_put (cs := #[.int .u64 t106, .int .u64 0]) ?_ 1 _ rfl; (with_reducible repeat (first | refine blk_drewN ?_ _ | refine blk_drew ?_ | refine blk_alloc ?_ _)); refine blk_put (cs := #[.int .u64 0, .int .u64 0]) ?_ 0 _ rfl; (with_reducible repeat (first | refine blk_drewN ?_ _ | refine blk_drew ?_ | refine blk_alloc ?_ _)); exact BK103.out⟩, ⟨by repeat (first | (with_reducible first | exact HB.out | apply below_alloc | apply pw_below_drewN | apply below_drew1 | refine below_set ?_ GE103.out) | exact HB.out)⟩⟩
       ·rw [if_neg c18] at H
        have c18b0 : decide (a2 < 0) = false := decide_eq_false c18
        clear c18
        have H' := Aside0.mk H
        clear H
        go_wp2
        go_meet
        case rel => exact ⟨_, (true), (by first | rfl | (simp; done) | (simp [*]; done)), H', ⟨by have := HJ4.out; first | omega | exact Nat.le_refl _⟩, ⟨by (with_reducible repeat (first | refine blk_drewN ?_ _ | refine blk_drew ?_ | refine blk_alloc ?_ _)); refine blk_put (cs := #[.int .u64 t106, .int .u64 0]) ?_ 1 _ rfl; (with_reducible repeat (first | refine blk_drewN ?_ _ | refine blk_drew ?_ | refine blk_alloc ?_ _)); refine blk_put (cs := #[.int .u64 0, .int .u64 0]) ?_ 0 _ rfl; (with_reducible repeat (first | refine blk_drewN ?_ _ | refine blk_drew ?_ | refine blk_alloc ?_ _)); exact BK103.out⟩, ⟨by repeat (first | (with_reducible first | exact HB.out | apply below_alloc | apply pw_below_drewN | apply below_drew1 | refine below_set ?_ GE103.out) | exact HB.out)⟩⟩
     ·rw [if_neg c15] at H
      have c15b0 : decide (a0 < 0) = false := decide_eq_false c15
      clear c15
      (first | rw [c15b0] | (simp only [i64_w, i32_w]; rw [c15b0]) | skip)
      by_cases c19 : a1 < 0
      ·rw [if_pos c19] at H
       have c19b0 : decide (a1 < 0) = true := decide_eq_true c19
       clear c19
       by_cases c20 : a2 < 0
       ·rw [if_pos c20] at H
        have c20b0 : decide (a2 < 0) = true := decide_eq_true c20
        clear c20
        have H' := Aside0.mk H
        clear H
        go_wp2
        go_meet
        case rel => exact ⟨_, (false), (by first | rfl | (simp; done) | (simp [*]; done)), H', ⟨by have := HJ4.out; first | omega | exact Nat.le_refl _⟩, ⟨by (with_reducible repeat (first | refine blk_drewN ?_ _ | refine blk_drew ?_ | refine blk_alloc ?_ _)); refine blk_put (cs := #[.int .u64 t106, .int .u64 0]) ?_ 1 _ rfl; (with_reducible repeat (first | refine blk_drewN ?_ _ | refine blk_drew ?_ | refine blk_alloc ?_ _)); refine blk_put (cs := #[.int .u64 0, .int .u64 0]) ?_ 0 _ rfl; (with_reducible repeat (first | refine blk_drewN ?_ _ | refine blk_drew ?_ | refine blk_alloc ?_ _)); exact BK103.out⟩, ⟨by repeat (first | (with_reducible first | exact HB.out | apply below_alloc | apply pw_below_drewN | apply below_drew1 | refine below_set ?_ GE103.out) | exact HB.out)⟩⟩
       ·rw [if_neg c20] at H
        have c20b0 : decide (a2 < 0) = false := decide_eq_false c20
        clear c20
        have H' := Aside0.mk H
        clear H
        go_wp2
        go_meet
        case rel => exact ⟨_, (true), (by first | rfl | (simp; done) | (simp [*]; done)), H', ⟨by have := HJ4.out; first | omega | exact Nat.le_refl _⟩, ⟨by (with_reducible repeat (first | refine blk_drewN ?_ _ | refine blk_drew ?_ | refine blk_alloc ?_ _)); refine blk_put (cs := #[.int .u64 t106, .int .u64 0]) ?_ 1 _ rfl; (with_reducible repeat (first | refine blk_drewN ?_ _ | refine blk_drew ?_ | refine blk_alloc ?_ _)); refine blk_put (cs := #[.int .u64 0, .int .u64 0]) ?_ 0 _ rfl; (with_reducible repeat (first | refine blk_drewN ?_ _ | refine blk_drew ?_ | refine blk_alloc ?_ _)); exact BK103.out⟩, ⟨by repeat (first | (with_reducible first | exact HB.out | apply below_alloc | apply pw_below_drewN | apply below_drew1 | refine below_set ?_ GE103.out) | exact HB.out)⟩⟩
      ·rw [if_neg c19] at H
       have c19b0 : decide (a1 < 0) = false := decide_eq_false c19
       clear c19
       by_cases c21 : a2 < 0
       ·rw [if_pos c21] at H
        have c21b0 : decide (a2 < 0) = true := decide_eq_true c21
        clear c21
        have H' := Aside0.mk H
        clear H
        go_wp2
        go_meet
        case rel => exact ⟨_, (true), (by first | rfl | (simp; done) | (simp [*]; done)), H', ⟨by have := HJ4.out; first | omega | exact Nat.le_refl _⟩, ⟨by (with_reducible repeat (first | refine blk_drewN ?_ _ | refine blk_drew ?_ | refine blk_alloc ?_ _)); refine blk_put (cs := #[.int .u64 t106, .int .u64 0]) ?_ 1 _ rfl; (with_reducible repeat (first | refine blk_drewN ?_ _ | refine blk_drew ?_ | refine blk_alloc ?_ _)); refine blk_put (cs := #[.int .u64 0, .int .u64 0]) ?_ 0 _ rfl; (with_reducible repeat (first | refine blk_drewN ?_ _ | refine blk_drew ?_ | refine blk_alloc ?_ _)); exact BK103.out⟩, ⟨by repeat (first | (with_reducible first | exact HB.out | apply below_alloc | apply pw_below_drewN | apply below_drew1 | refine below_set ?_ GE103.out) | exact HB.out)⟩⟩
       ·rw [if_neg c21] at H
        have c21b0 : decide (a2 < 0) = false := decide_eq_false c21
        clear c21
        have H' := Aside0.mk H
        clear H
        go_wp2
        go_meet
        case rel => exact ⟨_, (false), (by first | rfl | (simp; done) | (simp [*]; done)), H', ⟨by have := HJ4.out; first | omega | exact Nat.le_refl _⟩, ⟨by (with_reducible repeat (first | refine blk_drewN ?_ _ | refine blk_drew ?_ | refine blk_alloc ?_ _)); refine blk_put (cs := #[.int .u64 t106, .int .u64 0]) ?_ 1 _ rfl; (with_reducible repeat (first | refine blk_drewN ?_ _ | refine blk_drew ?_ | refine blk_alloc ?_ _)); refine blk_put (cs := #[.int .u64 0, .int .u64 0]) ?_ 0 _ rfl; (with_reducible repeat (first | refine blk_drewN ?_ _ | refine blk_drew ?_ | refine blk_alloc ?_ _)); exact BK103.out⟩, ⟨by repeat (first | (with_reducible first | exact HB.out | apply below_alloc | apply pw_below_drewN | apply below_drew1 | refine below_set ?_ GE103.out) | exact HB.out)⟩⟩
    case rest =>
     clear HC12
     try clear c1
     try clear c2
     try clear p2
     try clear c5
     try clear c6
     try clear c6b0
     try clear c6b1
     try clear c7
     try clear c7b0
     try clear c8
     try clear c15
     try clear c15b0
     try clear c16
     try clear c16b0
     try clear c17
     try clear c17b0
     try clear c18
     try clear c18b0
     try clear c19
     try clear c19b0
     try clear c20
     try clear c20b0
     try clear c21
     try clear c21b0
     try clear hcz14_0
     try clear hcz14_1
     try clear hfz14_0
     try clear hfz14_1
     try clear p2
     obtain ⟨kq, x11_11, rfl, HA, HJ11, BK103, HB⟩ := hcut
     cases kq with
     | zero => exact absurd HA.out (by simp [muldiv_quotient.j1])
     | succ kj11 =>
      have H := HA.out
      clear HA
      simp only [muldiv_quotient.j1] at H
      replace H := Option.bind_eq_some_iff.mp H
      obtain ⟨t108, A220, H⟩ := H
      replace H : ((muldiv_divided.f t106 t107 t108).bind fun bt109 => ((muldiv_size.f a2).bind fun t113 => ((muldiv_up.f bt109.2.2 t113 x11_11 a3).bind fun t114 => (if t114 = true then (muldiv_quotient.j2 kj11 x11_11 (IntKind.u64.wrap (bt109.1 + (add64c bt109.2.1 1 0))) (add64s bt109.2.1 1 0)) else (muldiv_quotient.j2 kj11 x11_11 bt109.1 bt109.2.1))))) = some (r1, r2) := H
      have A22 := Aside0.mk A220
      clear A220
      replace H := Option.bind_eq_some_iff.mp H
      obtain ⟨⟨t109, t110, t111⟩, A230, H⟩ := H
      replace H : ((muldiv_size.f a2).bind fun t113 => ((muldiv_up.f t111 t113 x11_11 a3).bind fun t114 => (if t114 = true then (muldiv_quotient.j2 kj11 x11_11 (IntKind.u64.wrap (t109 + (add64c t110 1 0))) (add64s t110 1 0)) else (muldiv_quotient.j2 kj11 x11_11 t109 t110)))) = some (r1, r2) := H
      have A23 := Aside0.mk A230
      clear A230
      replace H := Option.bind_eq_some_iff.mp H
      obtain ⟨t113, A240, H⟩ := H
      replace H : ((muldiv_up.f t111 t113 x11_11 a3).bind fun t114 => (if t114 = true then (muldiv_quotient.j2 kj11 x11_11 (IntKind.u64.wrap (t109 + (add64c t110 1 0))) (add64s t110 1 0)) else (muldiv_quotient.j2 kj11 x11_11 t109 t110))) = some (r1, r2) := H
      have A24 := Aside0.mk A240
      clear A240
      replace H := Option.bind_eq_some_iff.mp H
      obtain ⟨t114, A250, H⟩ := H
      replace H : (if t114 = true then (muldiv_quotient.j2 kj11 x11_11 (IntKind.u64.wrap (t109 + (add64c t110 1 0))) (add64s t110 1 0)) else (muldiv_quotient.j2 kj11 x11_11 t109 t110)) = some (r1, r2) := H
      have A25 := Aside0.mk A250
      clear A250
      have HC26 := Aside0.mk H
      clear H
      try go_wp2
      have n0_ := Aside0.mk (blk_drew BK103.out)
      have n1_ := Aside0.mk (below_drew1 HB.out)
      clear BK103
      clear HB
      have BK103 := n0_
      have HB := n1_
      clear n0_ n1_
      refine start_ (n := 10) (S := fun w' => w'.cell? ⟨gb103, 0, none⟩ = some (.int .u64 t106) ∧ w'.cell? ⟨gb103, 1, none⟩ = some (.int .u64 t107)) (ds := []) #[false, false, false, false, false, false, false, false, false, false] (by kernel_rfl) rfl rfl ⟨(blk_cell BK103.out 0).trans rfl, (blk_cell BK103.out 1).trans rfl⟩ (fun hHeld => ?_); refine with_tabW muldiv_quotient.tab6 muldiv_quotient.bits6 (fun HT_ HW_ => ?_)
      generalize wc.drew = w27 at BK103 HB hHeld ⊢
      refine pure_ (i := 1) (N := some 47) (v := ?_) (a' := ?_) #[false, true, false, false, false, false, false, false, false, false] rfl rfl (any_of HT_.out (by kernel_rfl)) (fun _ _ _ h => h) (Or.inl ⟨by rfl, ?_⟩) ?_ ?_
      rotate_left
      ·intro w'
       go_simp
       with_reducible rfl
      rotate_left
      ·simp only [Act.put, List.setIfInBounds_toArray, List.set_cons_zero, List.set_cons_succ, i64_w, i32_w]
       rfl
      refine take_ (i := 0) (N := some 46) (v := ?_) (a' := ?_) #[true, true, false, false, false, false, false, false, false, false] rfl rfl (take_ofW HT_.out HW_.out (by kernel_rfl)) (fun _ _ _ h => h) (Or.inl ⟨by rfl, ?_⟩) hHeld ?_ ?_
      rotate_left
      ·rintro w' ⟨s0, s1⟩
       go_simp
       with_reducible rfl
      rotate_left
      ·simp only [Act.put, List.setIfInBounds_toArray, List.set_cons_zero, List.set_cons_succ, i64_w, i32_w]
       rfl
      refine join_ (σ := Nat) 2 #[true, true, true, true, true, true, true, true, false, false] (fun s_ => [(48, .int .u64 t108), (49, .tuple #[.agg #[.int .u64 t109, .int .u64 t110], .int .u64 t111]), (12, .pointer (some ⟨s_, 0, none⟩)), (45, .tuple #[.agg #[.int .u64 t109, .int .u64 t110], .int .u64 t111]), (50, .agg #[.int .u64 t109, .int .u64 t110]), (51, .int .u64 t111)]) (fun s_ w' => (w'.cell? ⟨gb103, 0, none⟩ = some (.int .u64 t106) ∧ w'.cell? ⟨gb103, 1, none⟩ = some (.int .u64 t107)) ∧ (w'.heap[gb103]? = some (.cells #[.int .u64 t106, .int .u64 t107] 106 (0, 0))) ∧ (w'.heap[s_]? = some (.cells #[.int .u64 0, .int .u64 0] 106 (0, 0))) ∧ (w.heap.size ≤ s_) ∧ (w.heap.size ≤ s_) ∧ (gb103 ≠ s_) ∧ (s_ ≠ gb103) ∧ (Below w.heap.size w w')) ?_ ?_
      rotate_left
      ·intro hCont
       refine two_ (i := 2) (j := 7) (Ni := some 48) (Nj := some 12) #[true, true, true, false, false, false, false, false, false, false] #[true, true, false, false, false, false, false, true, false, false] rfl rfl rfl rfl (two_of HT_.out (by kernel_rfl)) (by decide) (by decide) (fun K hK => ?_) (fun K hK => ?_)
       ·skip
        refine goes_ Try.func61 (by kernel_rfl) rfl #[.int .i64 a2] (by rfl) rfl rfl (by (try simp only [List.map_toArray, List.map_cons, List.map_nil]); first | done | rfl | (simp only [List.length_drop, List.length_take]; rfl)) ?_
        with_reducible refine (muldiv_size.calls a2 t108 _ A22.out).mono ?_
        rintro e w' ⟨rfl, ⟨nd, rfl⟩⟩
        refine ⟨_, rfl, ?_⟩
        refine hK.out _ _ ⟨(blk_cell BK103.out 0).trans rfl, (blk_cell BK103.out 1).trans rfl⟩ (fun hHeld => ?_)
        clear hK K
        refine norm_ (a' := ?_) ?_ ?_
        rotate_left
        ·show Act.put _ (some 48) _ = _
         simp only [Act.put, List.setIfInBounds_toArray, List.set_cons_zero, List.set_cons_succ, i64_w, i32_w]
         rfl
        refine two_ (i := 3) (j := 7) (Ni := some 49) (Nj := some 12) #[true, true, true, true, false, false, false, false, false, false] #[true, true, true, false, false, false, false, true, false, false] rfl rfl rfl rfl (two_of HT_.out (by kernel_rfl)) (by decide) (by decide) (fun K hK => ?_) (fun K hK => ?_)
        ·skip
         refine goes_ Try.func62 (by kernel_rfl) rfl #[.agg #[.int .u64 t106, .int .u64 t107], .int .u64 t108] (by rfl) rfl rfl (by (try simp only [List.map_toArray, List.map_cons, List.map_nil]); first | done | rfl | (simp only [List.length_drop, List.length_take]; rfl)) ?_
         with_reducible refine (muldiv_divided.calls t106 t107 t108 t109 t110 t111 _ A23.out).mono ?_
         rintro e w28 ⟨rfl, hb⟩
         refine ⟨_, rfl, ?_⟩
         have n0_ := Aside0.mk (blk_below (g := gb103) (o := .cells #[.int .u64 t106, .int .u64 t107] 106 (0, 0)) (by (with_reducible repeat (first | refine blk_drewN ?_ _ | refine blk_drew ?_ | refine blk_alloc ?_ _)); exact BK103.out) hb)
         have n1_ := Aside0.mk (below_step (by repeat (first | (with_reducible first | exact HB.out | apply below_alloc | apply pw_below_drewN | apply below_drew1 | refine below_set ?_ GE103.out) | exact HB.out)) hb)
         clear BK103
         clear HB
         have BK103 := n0_
         have HB := n1_
         clear n0_ n1_
         (try clear hb)
         (try clear hb2)
         (try clear hk)
         (try clear hi)
         refine hK.out _ _ ⟨(blk_cell BK103.out 0).trans rfl, (blk_cell BK103.out 1).trans rfl⟩ (fun hHeld => ?_)
         clear hK K
         refine norm_ (a' := ?_) ?_ ?_
         rotate_left
         ·show Act.put _ (some 49) _ = _
          simp only [Act.put, List.setIfInBounds_toArray, List.set_cons_zero, List.set_cons_succ, i64_w, i32_w]
          rfl
         refine pure_ (i := 4) (N := some 45) (v := ?_) (a' := ?_) #[true, true, true, true, true, false, false, false, false, false] rfl rfl (any_of HT_.out (by kernel_rfl)) (fun _ _ _ h => h) (Or.inl ⟨by rfl, ?_⟩) ?_ ?_
         rotate_left
         ·intro w'
          go_simp
          with_reducible rfl
         rotate_left
         ·simp only [Act.put, List.setIfInBounds_toArray, List.set_cons_zero, List.set_cons_succ, i64_w, i32_w]
          rfl
         refine pure_ (i := 5) (N := some 50) (v := ?_) (a' := ?_) #[true, true, true, true, true, true, false, false, false, false] rfl rfl (any_of HT_.out (by kernel_rfl)) (fun _ _ _ h => h) (Or.inl ⟨by rfl, ?_⟩) ?_ ?_
         rotate_left
         ·intro w'
          go_simp
          with_reducible rfl
         rotate_left
         ·simp only [Act.put, List.setIfInBounds_toArray, List.set_cons_zero, List.set_cons_succ, i64_w, i32_w]
          rfl
         refine pure_ (i := 6) (N := some 51) (v := ?_) (a' := ?_) #[true, true, true, true, true, true, true, false, false, false] rfl rfl (any_of HT_.out (by kernel_rfl)) (fun _ _ _ h => h) (Or.inl ⟨by rfl, ?_⟩) ?_ ?_
         rotate_left
         ·intro w'
          go_simp
          with_reducible rfl
         rotate_left
         ·simp only [Act.put, List.setIfInBounds_toArray, List.set_cons_zero, List.set_cons_succ, i64_w, i32_w]
          rfl
         refine one_ (i := 7) (N := some 12) #[true, true, true, true, true, true, true, true, false, false] rfl rfl (one_of HT_.out (by kernel_rfl)) (by decide) (fun K hK => ?_)
         refine box_step ?hg (N := 12) ?hd (cs := #[.int .u64 0, .int .u64 0]) (t := 106) ?hr ?_; (case hd => rfl); (case hg => rfl); (case hr => first | (go_simp; done) | (go_simp; rfl))
         intro gb112 hg w29 hbox hb
         have n0_ := Aside0.mk (blk_below (g := gb103) (o := .cells #[.int .u64 t106, .int .u64 t107] 106 (0, 0)) (by (with_reducible repeat (first | refine blk_drewN ?_ _ | refine blk_drew ?_ | refine blk_alloc ?_ _)); exact BK103.out) hb)
         have n1_ := Aside0.mk (below_step (by repeat (first | (with_reducible first | exact HB.out | apply below_alloc | apply pw_below_drewN | apply below_drew1 | refine below_set ?_ GE103.out) | exact HB.out)) hb)
         have n2_ := Aside0.mk (hbox)
         have n3_ := Aside0.mk ((by rw [hg]; exact (below_size (by repeat (first | (with_reducible first | exact HB.out | apply below_alloc | apply pw_below_drewN | apply below_drew1 | refine below_set ?_ GE103.out) | exact HB.out))) : w.heap.size ≤ gb112))
         have n4_ := Aside0.mk ((by rw [hg]; exact (below_size (by repeat (first | (with_reducible first | exact HB.out | apply below_alloc | apply pw_below_drewN | apply below_drew1 | refine below_set ?_ GE103.out) | exact HB.out))) : w.heap.size ≤ gb112))
         have n5_ := Aside0.mk ((by rw [hg]; exact Nat.ne_of_lt (blk_lt (g := gb103) (o := .cells #[.int .u64 t106, .int .u64 t107] 106 (0, 0)) (by (with_reducible repeat (first | refine blk_drewN ?_ _ | refine blk_drew ?_ | refine blk_alloc ?_ _)); exact BK103.out)) : gb103 ≠ gb112))
         have n6_ := Aside0.mk ((by rw [hg]; exact Nat.ne_of_gt (blk_lt (g := gb103) (o := .cells #[.int .u64 t106, .int .u64 t107] 106 (0, 0)) (by (with_reducible repeat (first | refine blk_drewN ?_ _ | refine blk_drew ?_ | refine blk_alloc ?_ _)); exact BK103.out)) : gb112 ≠ gb103))
         clear BK103
         clear HB
         have BK103 := n0_
         have HB := n1_
         have BK112 := n2_
         have GW112 := n3_
         have GE112 := n4_
         have NB103_112 := n5_
         have NB112_103 := n6_
         clear n0_ n1_ n2_ n3_ n4_ n5_ n6_
         clear hb hbox hg
         refine hK.out _ _ ⟨(blk_cell BK103.out 0).trans rfl, (blk_cell BK103.out 1).trans rfl⟩ (fun hHeld => ?_)
         clear hK K
         refine norm_ (a' := ?_) ?_ ?_
         rotate_left
         ·show Act.put _ (some 12) _ = _
          simp only [Act.put, List.setIfInBounds_toArray, List.set_cons_zero, List.set_cons_succ, i64_w, i32_w]
          rfl
         exact norm_ (by simp only [putAll, Act.put, List.setIfInBounds_toArray, List.set_cons_zero, List.set_cons_succ]) (hCont (gb112) _ ⟨hHeld, (by (with_reducible repeat (first | refine blk_drewN ?_ _ | refine blk_drew ?_ | refine blk_alloc ?_ _)); exact BK103.out), (by (with_reducible repeat (first | refine blk_drewN ?_ _ | refine blk_drew ?_ | refine blk_alloc ?_ _)); exact BK112.out), GW112.out, GE112.out, NB103_112.out, NB112_103.out, (by repeat (first | (with_reducible first | exact HB.out | apply below_alloc | apply pw_below_drewN | apply below_drew1 | refine below_set ?_ GE103.out | refine below_set ?_ GE112.out) | exact HB.out))⟩)
        ·skip
         refine box_step ?hg (N := 12) ?hd (cs := #[.int .u64 0, .int .u64 0]) (t := 106) ?hr ?_; (case hd => rfl); (case hg => rfl); (case hr => first | (go_simp; done) | (go_simp; rfl))
         intro gb112 hg w28 hbox hb
         have n0_ := Aside0.mk (blk_below (g := gb103) (o := .cells #[.int .u64 t106, .int .u64 t107] 106 (0, 0)) (by (with_reducible repeat (first | refine blk_drewN ?_ _ | refine blk_drew ?_ | refine blk_alloc ?_ _)); exact BK103.out) hb)
         have n1_ := Aside0.mk (below_step (by repeat (first | (with_reducible first | exact HB.out | apply below_alloc | apply pw_below_drewN | apply below_drew1 | refine below_set ?_ GE103.out) | exact HB.out)) hb)
         have n2_ := Aside0.mk (hbox)
         have n3_ := Aside0.mk ((by rw [hg]; exact (below_size (by repeat (first | (with_reducible first | exact HB.out | apply below_alloc | apply pw_below_drewN | apply below_drew1 | refine below_set ?_ GE103.out) | exact HB.out))) : w.heap.size ≤ gb112))
         have n4_ := Aside0.mk ((by rw [hg]; exact (below_size (by repeat (first | (with_reducible first | exact HB.out | apply below_alloc | apply pw_below_drewN | apply below_drew1 | refine below_set ?_ GE103.out) | exact HB.out))) : w.heap.size ≤ gb112))
         have n5_ := Aside0.mk ((by rw [hg]; exact Nat.ne_of_lt (blk_lt (g := gb103) (o := .cells #[.int .u64 t106, .int .u64 t107] 106 (0, 0)) (by (with_reducible repeat (first | refine blk_drewN ?_ _ | refine blk_drew ?_ | refine blk_alloc ?_ _)); exact BK103.out)) : gb103 ≠ gb112))
         have n6_ := Aside0.mk ((by rw [hg]; exact Nat.ne_of_gt (blk_lt (g := gb103) (o := .cells #[.int .u64 t106, .int .u64 t107] 106 (0, 0)) (by (with_reducible repeat (first | refine blk_drewN ?_ _ | refine blk_drew ?_ | refine blk_alloc ?_ _)); exact BK103.out)) : gb112 ≠ gb103))
         clear BK103
         clear HB
         have BK103 := n0_
         have HB := n1_
         have BK112 := n2_
         have GW112 := n3_
         have GE112 := n4_
         have NB103_112 := n5_
         have NB112_103 := n6_
         clear n0_ n1_ n2_ n3_ n4_ n5_ n6_
         clear hb hbox hg
         refine hK.out _ _ ⟨(blk_cell BK103.out 0).trans rfl, (blk_cell BK103.out 1).trans rfl⟩ (fun hHeld => ?_)
         clear hK K
         refine norm_ (a' := ?_) ?_ ?_
         rotate_left
         ·show Act.put _ (some 12) _ = _
          simp only [Act.put, List.setIfInBounds_toArray, List.set_cons_zero, List.set_cons_succ, i64_w, i32_w]
          rfl
         refine one_ (i := 3) (N := some 49) #[true, true, true, true, false, false, false, true, false, false] rfl rfl (one_of HT_.out (by kernel_rfl)) (by decide) (fun K hK => ?_)
         refine goes_ Try.func62 (by kernel_rfl) rfl #[.agg #[.int .u64 t106, .int .u64 t107], .int .u64 t108] (by rfl) rfl rfl (by (try simp only [List.map_toArray, List.map_cons, List.map_nil]); first | done | rfl | (simp only [List.length_drop, List.length_take]; rfl)) ?_
         with_reducible refine (muldiv_divided.calls t106 t107 t108 t109 t110 t111 _ A23.out).mono ?_
         rintro e w29 ⟨rfl, hb⟩
         refine ⟨_, rfl, ?_⟩
         have n0_ := Aside0.mk (blk_below (g := gb103) (o := .cells #[.int .u64 t106, .int .u64 t107] 106 (0, 0)) (by (with_reducible repeat (first | refine blk_drewN ?_ _ | refine blk_drew ?_ | refine blk_alloc ?_ _)); exact BK103.out) hb)
         have n1_ := Aside0.mk (blk_below (g := gb112) (o := .cells #[.int .u64 0, .int .u64 0] 106 (0, 0)) (by (with_reducible repeat (first | refine blk_drewN ?_ _ | refine blk_drew ?_ | refine blk_alloc ?_ _)); exact BK112.out) hb)
         have n2_ := Aside0.mk (below_step (by repeat (first | (with_reducible first | exact HB.out | apply below_alloc | apply pw_below_drewN | apply below_drew1 | refine below_set ?_ GE103.out | refine below_set ?_ GE112.out) | exact HB.out)) hb)
         clear BK103
         clear BK112
         clear HB
         have BK103 := n0_
         have BK112 := n1_
         have HB := n2_
         clear n0_ n1_ n2_
         (try clear hb)
         (try clear hb2)
         (try clear hk)
         (try clear hi)
         refine hK.out _ _ ⟨(blk_cell BK103.out 0).trans rfl, (blk_cell BK103.out 1).trans rfl⟩ (fun hHeld => ?_)
         clear hK K
         refine norm_ (a' := ?_) ?_ ?_
         rotate_left
         ·show Act.put _ (some 49) _ = _
          simp only [Act.put, List.setIfInBounds_toArray, List.set_cons_zero, List.set_cons_succ, i64_w, i32_w]
          rfl
         refine pure_ (i := 4) (N := some 45) (v := ?_) (a' := ?_) #[true, true, true, true, true, false, false, true, false, false] rfl rfl (any_of HT_.out (by kernel_rfl)) (fun _ _ _ h => h) (Or.inl ⟨by rfl, ?_⟩) ?_ ?_
         rotate_left
         ·intro w'
          go_simp
          with_reducible rfl
         rotate_left
         ·simp only [Act.put, List.setIfInBounds_toArray, List.set_cons_zero, List.set_cons_succ, i64_w, i32_w]
          rfl
         refine pure_ (i := 5) (N := some 50) (v := ?_) (a' := ?_) #[true, true, true, true, true, true, false, true, false, false] rfl rfl (any_of HT_.out (by kernel_rfl)) (fun _ _ _ h => h) (Or.inl ⟨by rfl, ?_⟩) ?_ ?_
         rotate_left
         ·intro w'
          go_simp
          with_reducible rfl
         rotate_left
         ·simp only [Act.put, List.setIfInBounds_toArray, List.set_cons_zero, List.set_cons_succ, i64_w, i32_w]
          rfl
         refine pure_ (i := 6) (N := some 51) (v := ?_) (a' := ?_) #[true, true, true, true, true, true, true, true, false, false] rfl rfl (any_of HT_.out (by kernel_rfl)) (fun _ _ _ h => h) (Or.inl ⟨by rfl, ?_⟩) ?_ ?_
         rotate_left
         ·intro w'
          go_simp
          with_reducible rfl
         rotate_left
         ·simp only [Act.put, List.setIfInBounds_toArray, List.set_cons_zero, List.set_cons_succ, i64_w, i32_w]
          rfl
         exact norm_ (by simp only [putAll, Act.put, List.setIfInBounds_toArray, List.set_cons_zero, List.set_cons_succ]) (hCont (gb112) _ ⟨hHeld, (by (with_reducible repeat (first | refine blk_drewN ?_ _ | refine blk_drew ?_ | refine blk_alloc ?_ _)); exact BK103.out), (by (with_reducible repeat (first | refine blk_drewN ?_ _ | refine blk_drew ?_ | refine blk_alloc ?_ _)); exact BK112.out), GW112.out, GE112.out, NB103_112.out, NB112_103.out, (by repeat (first | (with_reducible first | exact HB.out | apply below_alloc | apply pw_below_drewN | apply below_drew1 | refine below_set ?_ GE103.out | refine below_set ?_ GE112.out) | exact HB.out))⟩)
       ·skip
        refine box_step ?hg (N := 12) ?hd (cs := #[.int .u64 0, .int .u64 0]) (t := 106) ?hr ?_; (case hd => rfl); (case hg => rfl); (case hr => first | (go_simp; done) | (go_simp; rfl))
        intro gb112 hg w28 hbox hb
        have n0_ := Aside0.mk (blk_below (g := gb103) (o := .cells #[.int .u64 t106, .int .u64 t107] 106 (0, 0)) (by (with_reducible repeat (first | refine blk_drewN ?_ _ | refine blk_drew ?_ | refine blk_alloc ?_ _)); exact BK103.out) hb)
        have n1_ := Aside0.mk (below_step (by repeat (first | (with_reducible first | exact HB.out | apply below_alloc | apply pw_below_drewN | apply below_drew1 | refine below_set ?_ GE103.out) | exact HB.out)) hb)
        have n2_ := Aside0.mk (hbox)
        have n3_ := Aside0.mk ((by rw [hg]; exact (below_size (by repeat (first | (with_reducible first | exact HB.out | apply below_alloc | apply pw_below_drewN | apply below_drew1 | refine below_set ?_ GE103.out) | exact HB.out))) : w.heap.size ≤ gb112))
        have n4_ := Aside0.mk ((by rw [hg]; exact (below_size (by repeat (first | (with_reducible first | exact HB.out | apply below_alloc | apply pw_below_drewN | apply below_drew1 | refine below_set ?_ GE103.out) | exact HB.out))) : w.heap.size ≤ gb112))
        have n5_ := Aside0.mk ((by rw [hg]; exact Nat.ne_of_lt (blk_lt (g := gb103) (o := .cells #[.int .u64 t106, .int .u64 t107] 106 (0, 0)) (by (with_reducible repeat (first | refine blk_drewN ?_ _ | refine blk_drew ?_ | refine blk_alloc ?_ _)); exact BK103.out)) : gb103 ≠ gb112))
        have n6_ := Aside0.mk ((by rw [hg]; exact Nat.ne_of_gt (blk_lt (g := gb103) (o := .cells #[.int .u64 t106, .int .u64 t107] 106 (0, 0)) (by (with_reducible repeat (first | refine blk_drewN ?_ _ | refine blk_drew ?_ | refine blk_alloc ?_ _)); exact BK103.out)) : gb112 ≠ gb103))
        clear BK103
        clear HB
        have BK103 := n0_
        have HB := n1_
        have BK112 := n2_
        have GW112 := n3_
        have GE112 := n4_
        have NB103_112 := n5_
        have NB112_103 := n6_
        clear n0_ n1_ n2_ n3_ n4_ n5_ n6_
        clear hb hbox hg
        refine hK.out _ _ ⟨(blk_cell BK103.out 0).trans rfl, (blk_cell BK103.out 1).trans rfl⟩ (fun hHeld => ?_)
        clear hK K
        refine norm_ (a' := ?_) ?_ ?_
        rotate_left
        ·show Act.put _ (some 12) _ = _
         simp only [Act.put, List.setIfInBounds_toArray, List.set_cons_zero, List.set_cons_succ, i64_w, i32_w]
         rfl
        refine one_ (i := 2) (N := some 48) #[true, true, true, false, false, false, false, true, false, false] rfl rfl (one_of HT_.out (by kernel_rfl)) (by decide) (fun K hK => ?_)
        refine goes_ Try.func61 (by kernel_rfl) rfl #[.int .i64 a2] (by rfl) rfl rfl (by (try simp only [List.map_toArray, List.map_cons, List.map_nil]); first | done | rfl | (simp only [List.length_drop, List.length_take]; rfl)) ?_
        with_reducible refine (muldiv_size.calls a2 t108 _ A22.out).mono ?_
        rintro e w' ⟨rfl, ⟨nd, rfl⟩⟩
        refine ⟨_, rfl, ?_⟩
        refine hK.out _ _ ⟨(blk_cell BK103.out 0).trans rfl, (blk_cell BK103.out 1).trans rfl⟩ (fun hHeld => ?_)
        clear hK K
        refine norm_ (a' := ?_) ?_ ?_
        rotate_left
        ·show Act.put _ (some 48) _ = _
         simp only [Act.put, List.setIfInBounds_toArray, List.set_cons_zero, List.set_cons_succ, i64_w, i32_w]
         rfl
        refine one_ (i := 3) (N := some 49) #[true, true, true, true, false, false, false, true, false, false] rfl rfl (one_of HT_.out (by kernel_rfl)) (by decide) (fun K hK => ?_)
        refine goes_ Try.func62 (by kernel_rfl) rfl #[.agg #[.int .u64 t106, .int .u64 t107], .int .u64 t108] (by rfl) rfl rfl (by (try simp only [List.map_toArray, List.map_cons, List.map_nil]); first | done | rfl | (simp only [List.length_drop, List.length_take]; rfl)) ?_
        with_reducible refine (muldiv_divided.calls t106 t107 t108 t109 t110 t111 _ A23.out).mono ?_
        rintro e w29 ⟨rfl, hb⟩
        refine ⟨_, rfl, ?_⟩
        have n0_ := Aside0.mk (blk_below (g := gb103) (o := .cells #[.int .u64 t106, .int .u64 t107] 106 (0, 0)) (by (with_reducible repeat (first | refine blk_drewN ?_ _ | refine blk_drew ?_ | refine blk_alloc ?_ _)); exact BK103.out) hb)
        have n1_ := Aside0.mk (blk_below (g := gb112) (o := .cells #[.int .u64 0, .int .u64 0] 106 (0, 0)) (by (with_reducible repeat (first | refine blk_drewN ?_ _ | refine blk_drew ?_ | refine blk_alloc ?_ _)); exact BK112.out) hb)
        have n2_ := Aside0.mk (below_step (by repeat (first | (with_reducible first | exact HB.out | apply below_alloc | apply pw_below_drewN | apply below_drew1 | refine below_set ?_ GE103.out | refine below_set ?_ GE112.out) | exact HB.out)) hb)
        clear BK103
        clear BK112
        clear HB
        have BK103 := n0_
        have BK112 := n1_
        have HB := n2_
        clear n0_ n1_ n2_
        (try clear hb)
        (try clear hb2)
        (try clear hk)
        (try clear hi)
        refine hK.out _ _ ⟨(blk_cell BK103.out 0).trans rfl, (blk_cell BK103.out 1).trans rfl⟩ (fun hHeld => ?_)
        clear hK K
        refine norm_ (a' := ?_) ?_ ?_
        rotate_left
        ·show Act.put _ (some 49) _ = _
         simp only [Act.put, List.setIfInBounds_toArray, List.set_cons_zero, List.set_cons_succ, i64_w, i32_w]
         rfl
        refine pure_ (i := 4) (N := some 45) (v := ?_) (a' := ?_) #[true, true, true, true, true, false, false, true, false, false] rfl rfl (any_of HT_.out (by kernel_rfl)) (fun _ _ _ h => h) (Or.inl ⟨by rfl, ?_⟩) ?_ ?_
        rotate_left
        ·intro w'
         go_simp
         with_reducible rfl
        rotate_left
        ·simp only [Act.put, List.setIfInBounds_toArray, List.set_cons_zero, List.set_cons_succ, i64_w, i32_w]
         rfl
        refine pure_ (i := 5) (N := some 50) (v := ?_) (a' := ?_) #[true, true, true, true, true, true, false, true, false, false] rfl rfl (any_of HT_.out (by kernel_rfl)) (fun _ _ _ h => h) (Or.inl ⟨by rfl, ?_⟩) ?_ ?_
        rotate_left
        ·intro w'
         go_simp
         with_reducible rfl
        rotate_left
        ·simp only [Act.put, List.setIfInBounds_toArray, List.set_cons_zero, List.set_cons_succ, i64_w, i32_w]
         rfl
        refine pure_ (i := 6) (N := some 51) (v := ?_) (a' := ?_) #[true, true, true, true, true, true, true, true, false, false] rfl rfl (any_of HT_.out (by kernel_rfl)) (fun _ _ _ h => h) (Or.inl ⟨by rfl, ?_⟩) ?_ ?_
        rotate_left
        ·intro w'
         go_simp
         with_reducible rfl
        rotate_left
        ·simp only [Act.put, List.setIfInBounds_toArray, List.set_cons_zero, List.set_cons_succ, i64_w, i32_w]
         rfl
        exact norm_ (by simp only [putAll, Act.put, List.setIfInBounds_toArray, List.set_cons_zero, List.set_cons_succ]) (hCont (gb112) _ ⟨hHeld, (by (with_reducible repeat (first | refine blk_drewN ?_ _ | refine blk_drew ?_ | refine blk_alloc ?_ _)); exact BK103.out), (by (with_reducible repeat (first | refine blk_drewN ?_ _ | refine blk_drew ?_ | refine blk_alloc ?_ _)); exact BK112.out), GW112.out, GE112.out, NB103_112.out, NB112_103.out, (by repeat (first | (with_reducible first | exact HB.out | apply below_alloc | apply pw_below_drewN | apply below_drew1 | refine below_set ?_ GE103.out | refine below_set ?_ GE112.out) | exact HB.out))⟩)
      rintro gb112 w30 ⟨hS_, h0_, h1_, h2_, h3_, h4_, h5_, h6_⟩
      have n0_ : Aside0 (w30.heap[gb103]? = some (.cells #[.int .u64 t106, .int .u64 t107] 106 (0, 0))) := ⟨h0_⟩
      have n1_ : Aside0 (w30.heap[gb112]? = some (.cells #[.int .u64 0, .int .u64 0] 106 (0, 0))) := ⟨h1_⟩
      have n2_ : Aside0 (w.heap.size ≤ gb112) := ⟨h2_⟩
      have n3_ : Aside0 (w.heap.size ≤ gb112) := ⟨h3_⟩
      have n4_ : Aside0 (gb103 ≠ gb112) := ⟨h4_⟩
      have n5_ : Aside0 (gb112 ≠ gb103) := ⟨h5_⟩
      have n6_ : Aside0 (Below w.heap.size w w30) := ⟨h6_⟩
      clear BK103
      clear HB
      clear h0_ h1_ h2_ h3_ h4_ h5_ h6_
      have BK103 := n0_
      have BK112 := n1_
      have GW112 := n2_
      have GE112 := n3_
      have NB103_112 := n4_
      have NB112_103 := n5_
      have HB := n6_
      clear n0_ n1_ n2_ n3_ n4_ n5_ n6_
      have hHeld : w30.cell? ⟨gb103, 0, none⟩ = some (.int .u64 t106) ∧ w30.cell? ⟨gb103, 1, none⟩ = some (.int .u64 t107) := hS_
      refine norm_ (a' := ?_) ?_ ?_
      rotate_left
      ·simp only [putAll, Act.put, List.setIfInBounds_toArray, List.set_cons_zero, List.set_cons_succ]
       rfl
      refine one_ (i := 8) (N := none) #[true, true, true, true, true, true, true, true, true, false] rfl rfl (one_of HT_.out (by kernel_rfl)) (by decide) (fun K hK => ?_)
      have hs31 : w30.cell? ⟨gb112, 0, none⟩ = some (.int .u64 0) := (blk_cell BK112.out 0).trans rfl
      have hfs31 := blk_frozen BK112.out 0
      have hns31_0 := NB103_112.out
      have hms31_0 := NB112_103.out
      have hs32 : w30.cell? ⟨gb112, 1, none⟩ = some (.int .u64 0) := (blk_cell BK112.out 1).trans rfl
      have hfs32 := blk_frozen BK112.out 1
      have hns32_0 := NB103_112.out
      have hms32_0 := NB112_103.out
      refine skip_ (w1 := ?_) (by rfl) rfl ?_ ?_
      rotate_left
      ·go_simp
       rfl
      refine hK.out _ _ ⟨((cell_far (p := ⟨gb112, _, none⟩) NB103_112.out _).trans (((cell_far (p := ⟨gb112, _, none⟩) NB103_112.out _).trans (hHeld.1)))), ((cell_far (p := ⟨gb112, _, none⟩) NB103_112.out _).trans (((cell_far (p := ⟨gb112, _, none⟩) NB103_112.out _).trans (hHeld.2))))⟩ (fun hHeld => ?_)
      clear hK K
      refine pure_ (i := 9) (N := some 13) (v := ?_) (a' := ?_) #[true, true, true, true, true, true, true, true, true, true] rfl rfl (any_of HT_.out (by kernel_rfl)) (fun _ _ _ h => h) (Or.inl ⟨by rfl, ?_⟩) ?_ ?_
      rotate_left
      ·intro w'
       go_simp
       with_reducible rfl
      rotate_left
      ·simp only [Act.put, List.setIfInBounds_toArray, List.set_cons_zero, List.set_cons_succ, i64_w, i32_w]
       rfl
      refine done_ (done_of HT_.out (by kernel_rfl)) ?_
      go_upto_if 57 with (first | ((with_reducible refine gate_callee (f := 61) rfl ?_); refine goesL_ (some 54) rfl rfl Try.func61 (by kernel_rfl) rfl #[.int .i64 a2] rfl (by (try simp only [List.map_toArray, List.map_cons, List.map_nil]); first | done | rfl | (simp only [List.length_drop, List.length_take]; rfl)) ?_; (with_reducible refine (muldiv_size.calls a2 t113 _ A24.out).mono ?_); rintro e w' ⟨rfl, ⟨nd, rfl⟩⟩; refine ⟨_, rfl, ?_⟩) | ((with_reducible refine gate_callee (f := 63) rfl ?_); refine goesL_ (some 57) rfl rfl Try.func63 (by kernel_rfl) rfl #[.int .u64 t111, .int .u64 t113, .bool x11_11, .int .i64 a3] rfl (by (try simp only [List.map_toArray, List.map_cons, List.map_nil]); first | done | rfl | (simp only [List.length_drop, List.length_take]; rfl)) ?_; (with_reducible refine (muldiv_up.calls t111 t113 x11_11 a3 t114 _ A25.out).mono ?_); rintro e w' ⟨rfl, ⟨nd, rfl⟩⟩; refine ⟨_, rfl, ?_⟩))
      (try simp only [Act.put, List.setIfInBounds_toArray, List.set_cons_zero, List.set_cons_succ])
      go_cut [] (fun wc => ∃ (kq : Nat) (x113000_25 : Int) (x113001_25 : Int), Aside0 (muldiv_quotient.j2 kq x11_11 x113000_25 x113001_25 = some (r1, r2)) ∧ Aside0 (kq ≤ kj11) ∧ Aside0 (wc.heap[gb103]? = some (.cells #[.int .u64 t106, .int .u64 t107] 106 (0, 0))) ∧ Aside0 (wc.heap[gb112]? = some (.cells #[.int .u64 x113000_25, .int .u64 x113001_25] 106 (0, 0))) ∧ Aside0 (Below w.heap.size w wc))
      case first =>
       have H := HC26.out
       clear HC26
       by_cases c33 : t114 = true
       ·subst c33
        have H1 : (muldiv_quotient.j2 kj11 x11_11 (IntKind.u64.wrap (t109 + (add64c t110 1 0))) (add64s t110 1 0)) = some (r1, r2) := by rw [if_pos rfl] at H; exact H
        clear H
        have H := H1
        clear H1
        have H' := Aside0.mk H
        clear H
        have hnb34 := NB112_103.out
        have hnc34 := NB103_112.out
        have hcz35_0 : w30.cell? ⟨gb112, 0, none⟩ = some (.int .u64 0) := (blk_cell BK112.out 0).trans rfl
        have hcz35_1 : w30.cell? ⟨gb112, 1, none⟩ = some (.int .u64 0) := (blk_cell BK112.out 1).trans rfl
        have hfz35_0 := blk_frozen BK112.out 0
        have hfz35_1 := blk_frozen BK112.out 1
        go_wp2
        go_meet
        case rel => exact ⟨_, (IntKind.u64.wrap (t109 + (add64c t110 1 0))), (add64s t110 1 0), H', ⟨by have := HJ4.out; have := HJ11.out; first | omega | exact Nat.le_refl _⟩, ⟨by (with_reducible repeat (first | refine blk_drewN ?_ _ | refine blk_drew ?_ | refine blk_alloc ?_ _)); refine blk_far ?_ NB103_112.out _; (with_reducible repeat (first | refine blk_drewN ?_ _ | refine blk_drew ?_ | refine blk_alloc ?_ _)); refine blk_far ?_ NB103_112.out _; (with_reducible repeat (first | refine blk_drewN ?_ _ | refine blk_drew ?_ | refine blk_alloc ?_ _)); refine blk_far ?_ NB103_112.out _; (with_reducible repeat (first | refine blk_drewN ?_ _ | refine blk_drew ?_ | refine blk_alloc ?_ _)); refine blk_far ?_ NB103_112.out _; (with_reducible repeat (first | refine blk_drewN ?_ _ | refine blk_drew ?_ | refine blk_alloc ?_ _)); exact BK103.out⟩, ⟨by (with_reducible repeat (first | refine blk_drewN ?_ _ | refine blk_drew ?_ | refine blk_alloc ?_ _)); refine blk_put (cs := #[.int .u64 (IntKind.u64.wrap (t109 + (add64c t110 1 0))), .int .u64 t110]) ?_ 1 _ rfl; (with_reducible repeat (first | refine blk_drewN ?_ _ | refine blk_drew ?_ | refine blk_alloc ?_ _)); refine blk_put (cs := #[.int .u64 t109, .int .u64 t110]) ?_ 0 _ rfl; (with_reducible repeat (first | refine blk_drewN ?_ _ | refine blk_drew ?_ | refine blk_alloc ?_ _)); refine blk_put (cs := #[.int .u64 t109, .int .u64 0]) ?_ 1 _ rfl; (with_reducible repeat (first | refine blk_drewN ?_ _ | refine blk_drew ?_ | refine blk_alloc ?_ _)); refine blk_put (cs := #[.int .u64 0, .int .u64 0]) ?_ 0 _ rfl; (with_reducible repeat (first | refine blk_drewN ?_ _ | refine blk_drew ?_ | refine blk_alloc ?_ _)); exact BK112.out⟩, ⟨by repeat (first | (with_reducible first | exact HB.out | apply below_alloc | apply pw_below_drewN | apply below_drew1 | refine below_set ?_ GE103.out | refine below_set ?_ GE112.out) | exact HB.out)⟩⟩
       ·replace c33 := Bool.eq_false_iff.mpr c33
        subst c33
        have H1 : (muldiv_quotient.j2 kj11 x11_11 t109 t110) = some (r1, r2) := by rw [if_neg (show ¬ (false = true) by decide)] at H; exact H
        clear H
        have H := H1
        clear H1
        have H' := Aside0.mk H
        clear H
        go_wp2
        go_meet
        case rel => exact ⟨_, (t109), (t110), H', ⟨by have := HJ4.out; have := HJ11.out; first | omega | exact Nat.le_refl _⟩, ⟨by (with_reducible repeat (first | refine blk_drewN ?_ _ | refine blk_drew ?_ | refine blk_alloc ?_ _)); refine blk_far ?_ NB103_112.out _; (with_reducible repeat (first | refine blk_drewN ?_ _ | refine blk_drew ?_ | refine blk_alloc ?_ _)); refine blk_far ?_ NB103_112.out _; (with_reducible repeat (first | refine blk_drewN ?_ _ | refine blk_drew ?_ | refine blk_alloc ?_ _)); exact BK103.out⟩, ⟨by (with_reducible repeat (first | refine blk_drewN ?_ _ | refine blk_drew ?_ | refine blk_alloc ?_ _)); refine blk_put (cs := #[.int .u64 t109, .int .u64 0]) ?_ 1 _ rfl; (with_reducible repeat (first | refine blk_drewN ?_ _ | refine blk_drew ?_ | refine blk_alloc ?_ _)); refine blk_put (cs := #[.int .u64 0, .int .u64 0]) ?_ 0 _ rfl; (with_reducible repeat (first | refine blk_drewN ?_ _ | refine blk_drew ?_ | refine blk_alloc ?_ _)); exact BK112.out⟩, ⟨by repeat (first | (with_reducible first | exact HB.out | apply below_alloc | apply pw_below_drewN | apply below_drew1 | refine below_set ?_ GE103.out | refine below_set ?_ GE112.out) | exact HB.out)⟩⟩
      case rest =>
       clear HC26
       try clear c1
       try clear c2
       try clear p2
       try clear c3
       try clear c5
       try clear c6
       try clear c6b0
       try clear c6b1
       try clear c7
       try clear c7b0
       try clear c8
       try clear c15
       try clear c15b0
       try clear c16
       try clear c16b0
       try clear c17
       try clear c17b0
       try clear c18
       try clear c18b0
       try clear c19
       try clear c19b0
       try clear c20
       try clear c20b0
       try clear c21
       try clear c21b0
       try clear c33
       try clear c34
       try clear hcz14_0
       try clear hcz14_1
       try clear hcz35_0
       try clear hcz35_1
       try clear hfz14_0
       try clear hfz14_1
       try clear hfz35_0
       try clear hfz35_1
       try clear p2
       obtain ⟨kq, x113000_25, x113001_25, HA, HJ25, BK103, BK112, HB⟩ := hcut
       cases kq with
       | zero => exact absurd HA.out (by simp [muldiv_quotient.j2])
       | succ kj25 =>
        have H := HA.out
        clear HA
        simp only [muldiv_quotient.j2] at H
        have HC36 := Aside0.mk H
        clear H
        go_upto_if 70 with (fail)
        go_cut [16] (fun v16 wc => ∃ (kq : Nat) (x16_35 : Int), v16 = .int .u64 x16_35 ∧ Aside0 (muldiv_quotient.j3 kq x11_11 x16_35 x113000_25 x113001_25 = some (r1, r2)) ∧ Aside0 (kq ≤ kj25) ∧ Aside0 (wc.heap[gb103]? = some (.cells #[.int .u64 t106, .int .u64 t107] 106 (0, 0))) ∧ Aside0 (wc.heap[gb112]? = some (.cells #[.int .u64 x113000_25, .int .u64 x113001_25] 106 (0, 0))) ∧ Aside0 (Below w.heap.size w wc))
        case first =>
         have H := HC36.out
         clear HC36
         by_cases c37 : x11_11 = true
         ·subst c37
          have H1 : (muldiv_quotient.j3 kj25 true (9223372036854775807 + 1) x113000_25 x113001_25) = some (r1, r2) := by rw [if_pos rfl] at H; exact H
          clear H
          have H := H1
          clear H1
          have H' := Aside0.mk H
          clear H
          go_wp2
          go_meet
          case rel => exact ⟨_, (9223372036854775807 + 1), (by first | rfl | (simp; done) | (simp [*]; done)), H', ⟨by have := HJ4.out; have := HJ11.out; have := HJ25.out; first | omega | exact Nat.le_refl _⟩, ⟨by (with_reducible repeat (first | refine blk_drewN ?_ _ | refine blk_drew ?_ | refine blk_alloc ?_ _)); exact BK103.out⟩, ⟨by (with_reducible repeat (first | refine blk_drewN ?_ _ | refine blk_drew ?_ | refine blk_alloc ?_ _)); exact BK112.out⟩, ⟨by repeat (first | (with_reducible first | exact HB.out | apply below_alloc | apply pw_below_drewN | apply below_drew1 | refine below_set ?_ GE103.out | refine below_set ?_ GE112.out) | exact HB.out)⟩⟩
         ·replace c37 := Bool.eq_false_iff.mpr c37
          subst c37
          have H1 : (muldiv_quotient.j3 kj25 false 9223372036854775807 x113000_25 x113001_25) = some (r1, r2) := by rw [if_neg (show ¬ (false = true) by decide)] at H; exact H
          clear H
          have H := H1
          clear H1
          have H' := Aside0.mk H
          clear H
          go_wp2
          go_meet
          case rel => exact ⟨_, (9223372036854775807), (by first | rfl | (simp; done) | (simp [*]; done)), H', ⟨by have := HJ4.out; have := HJ11.out; have := HJ25.out; first | omega | exact Nat.le_refl _⟩, ⟨by (with_reducible repeat (first | refine blk_drewN ?_ _ | refine blk_drew ?_ | refine blk_alloc ?_ _)); exact BK103.out⟩, ⟨by (with_reducible repeat (first | refine blk_drewN ?_ _ | refine blk_drew ?_ | refine blk_alloc ?_ _)); exact BK112.out⟩, ⟨by repeat (first | (with_reducible first | exact HB.out | apply below_alloc | apply pw_below_drewN | apply below_drew1 | refine below_set ?_ GE103.out | refine below_set ?_ GE112.out) | exact HB.out)⟩⟩
        case rest =>
         clear HC36
         try clear c1
         try clear c2
         try clear p2
         try clear c3
         try clear c5
         try clear c6
         try clear c6b0
         try clear c6b1
         try clear c7
         try clear c7b0
         try clear c8
         try clear c15
         try clear c15b0
         try clear c16
         try clear c16b0
         try clear c17
         try clear c17b0
         try clear c18
         try clear c18b0
         try clear c19
         try clear c19b0
         try clear c20
         try clear c20b0
         try clear c21
         try clear c21b0
         try clear c33
         try clear c34
         try clear c37
         try clear hcz14_0
         try clear hcz14_1
         try clear hcz35_0
         try clear hcz35_1
         try clear hfz14_0
         try clear hfz14_1
         try clear hfz35_0
         try clear hfz35_1
         try clear p2
         obtain ⟨kq, x16_35, rfl, HA, HJ35, BK103, BK112, HB⟩ := hcut
         cases kq with
         | zero => exact absurd HA.out (by simp [muldiv_quotient.j3])
         | succ kj35 =>
          have H := HA.out
          clear HA
          simp only [muldiv_quotient.j3] at H
          have HC38 := Aside0.mk H
          clear H
          go_upto_region 13 with (fail)
          go_cut [73] (fun v73 wc => ∃ (kq : Nat) (x73_37 : Bool), v73 = .bool x73_37 ∧ Aside0 (muldiv_quotient.j4 kq x11_11 x73_37 x113000_25 x113001_25 = some (r1, r2)) ∧ Aside0 (kq ≤ kj35) ∧ Aside0 (wc.heap[gb103]? = some (.cells #[.int .u64 t106, .int .u64 t107] 106 (0, 0))) ∧ Aside0 (wc.heap[gb112]? = some (.cells #[.int .u64 x113000_25, .int .u64 x113001_25] 106 (0, 0))) ∧ Aside0 (Below w.heap.size w wc))
          case first =>
           have H := HC38.out
           clear HC38
           by_cases c39 : x113000_25 > 0
           ·rw [if_pos c39] at H
            have c39b0 : decide (0 < x113000_25) = true := decide_eq_true c39
            clear c39
            (first | rw [c39b0] | (simp only [i64_w, i32_w]; rw [c39b0]) | skip)
            have H' := Aside0.mk H
            clear H
            have hnb40 := NB112_103.out
            have hnc40 := NB103_112.out
            have hcz41_0 : wc.cell? ⟨gb112, 0, none⟩ = some (.int .u64 x113000_25) := (blk_cell BK112.out 0).trans rfl
            have hcz41_1 : wc.cell? ⟨gb112, 1, none⟩ = some (.int .u64 x113001_25) := (blk_cell BK112.out 1).trans rfl
            have hfz41_0 := blk_frozen BK112.out 0
            have hfz41_1 := blk_frozen BK112.out 1
            go_wp2
            go_meet
            case rel => exact ⟨_, (true), (by first | rfl | (simp; done) | (simp [*]; done)), H', ⟨by have := HJ4.out; have := HJ11.out; have := HJ25.out; have := HJ35.out; first | omega | exact Nat.le_refl _⟩, ⟨by (with_reducible repeat (first | refine blk_drewN ?_ _ | refine blk_drew ?_ | refine blk_alloc ?_ _)); exact BK103.out⟩, ⟨by (with_reducible repeat (first | refine blk_drewN ?_ _ | refine blk_drew ?_ | refine blk_alloc ?_ _)); exact BK112.out⟩, ⟨by repeat (first | (with_reducible first | exact HB.out | apply below_alloc | apply pw_below_drewN | apply below_drew1 | refine below_set ?_ GE103.out | refine below_set ?_ GE112.out) | exact HB.out)⟩⟩
           ·rw [if_neg c39] at H
            have c39b0 : decide (0 < x113000_25) = false := decide_eq_false c39
            clear c39
            (first | rw [c39b0] | (simp only [i64_w, i32_w]; rw [c39b0]) | skip)
            have H' := Aside0.mk H
            clear H
            have hnb42 := NB112_103.out
            have hnc42 := NB103_112.out
            have hcz43_0 : wc.cell? ⟨gb112, 0, none⟩ = some (.int .u64 x113000_25) := (blk_cell BK112.out 0).trans rfl
            have hcz43_1 : wc.cell? ⟨gb112, 1, none⟩ = some (.int .u64 x113001_25) := (blk_cell BK112.out 1).trans rfl
            have hfz43_0 := blk_frozen BK112.out 0
            have hfz43_1 := blk_frozen BK112.out 1
            go_wp2
            go_meet
            case rel => exact ⟨_, (decide (x113001_25 > x16_35)), (by first | rfl | (simp; done) | (simp [*]; done)), H', ⟨by have := HJ4.out; have := HJ11.out; have := HJ25.out; have := HJ35.out; first | omega | exact Nat.le_refl _⟩, ⟨by (with_reducible repeat (first | refine blk_drewN ?_ _ | refine blk_drew ?_ | refine blk_alloc ?_ _)); exact BK103.out⟩, ⟨by (with_reducible repeat (first | refine blk_drewN ?_ _ | refine blk_drew ?_ | refine blk_alloc ?_ _)); exact BK112.out⟩, ⟨by repeat (first | (with_reducible first | exact HB.out | apply below_alloc | apply pw_below_drewN | apply below_drew1 | refine below_set ?_ GE103.out | refine below_set ?_ GE112.out) | exact HB.out)⟩⟩
          case rest =>
           clear HC38
           try clear c1
           try clear c2
           try clear p2
           try clear c3
           try clear c4
           try clear c5
           try clear c6
           try clear c6b0
           try clear c6b1
           try clear c7
           try clear c7b0
           try clear c8
           try clear c15
           try clear c15b0
           try clear c16
           try clear c16b0
           try clear c17
           try clear c17b0
           try clear c18
           try clear c18b0
           try clear c19
           try clear c19b0
           try clear c20
           try clear c20b0
           try clear c21
           try clear c21b0
           try clear c33
           try clear c34
           try clear c37
           try clear c39
           try clear c39b0
           try clear c40
           try clear c42
           try clear hcz14_0
           try clear hcz14_1
           try clear hcz35_0
           try clear hcz35_1
           try clear hcz41_0
           try clear hcz41_1
           try clear hcz43_0
           try clear hcz43_1
           try clear hfz14_0
           try clear hfz14_1
           try clear hfz35_0
           try clear hfz35_1
           try clear hfz41_0
           try clear hfz41_1
           try clear hfz43_0
           try clear hfz43_1
           try clear p2
           obtain ⟨kq, x73_37, rfl, HA, HJ37, BK103, BK112, HB⟩ := hcut
           cases kq with
           | zero => exact absurd HA.out (by simp [muldiv_quotient.j4])
           | succ kj37 =>
            have H := HA.out
            clear HA
            simp only [muldiv_quotient.j4] at H
            by_cases c44 : x73_37 = true
            ·subst c44
             have H1 : (if x11_11 = true then (some ((-9223372036854775808), false)) else (some (9223372036854775807, false))) = some (r1, r2) := by rw [if_pos rfl] at H; exact H
             clear H
             have H := H1
             clear H1
             by_cases c45 : x11_11 = true
             ·subst c45
              have H1 : (some ((-9223372036854775808), false)) = some (r1, r2) := by rw [if_pos rfl] at H; exact H
              clear H
              have H := H1
              clear H1
              simp only [Option.some.injEq, Prod.mk.injEq] at H
              obtain ⟨rfl, rfl⟩ := H
              go_wp2
              go_ret2
              exact ⟨by first | rfl | (simp [errW_none, errW_some] <;> rfl) | (simp [*, errW_none, errW_some] <;> rfl), by repeat (first | (with_reducible first | exact HB.out | apply below_alloc | apply pw_below_drewN | apply below_drew1 | refine below_set ?_ GE103.out | refine below_set ?_ GE112.out) | exact HB.out)⟩
             ·replace c45 := Bool.eq_false_iff.mpr c45
              subst c45
              have H1 : (some (9223372036854775807, false)) = some (r1, r2) := by rw [if_neg (show ¬ (false = true) by decide)] at H; exact H
              clear H
              have H := H1
              clear H1
              simp only [Option.some.injEq, Prod.mk.injEq] at H
              obtain ⟨rfl, rfl⟩ := H
              go_wp2
              go_ret2
              exact ⟨by first | rfl | (simp [errW_none, errW_some] <;> rfl) | (simp [*, errW_none, errW_some] <;> rfl), by repeat (first | (with_reducible first | exact HB.out | apply below_alloc | apply pw_below_drewN | apply below_drew1 | refine below_set ?_ GE103.out | refine below_set ?_ GE112.out) | exact HB.out)⟩
            ·replace c44 := Bool.eq_false_iff.mpr c44
             subst c44
             have H1 : (if x11_11 = true then (some (wrap64 (IntKind.u64.wrap (-x113001_25)), true)) else (some (wrap64 (x113001_25), true))) = some (r1, r2) := by rw [if_neg (show ¬ (false = true) by decide)] at H; exact H
             clear H
             have H := H1
             clear H1
             by_cases c46 : x11_11 = true
             ·subst c46
              have H1 : (some (wrap64 (IntKind.u64.wrap (-x113001_25)), true)) = some (r1, r2) := by rw [if_pos rfl] at H; exact H
              clear H
              have H := H1
              clear H1
              simp only [Option.some.injEq, Prod.mk.injEq] at H
              obtain ⟨rfl, rfl⟩ := H
              have hnb47 := NB112_103.out
              have hnc47 := NB103_112.out
              have hcz48_0 : wc.cell? ⟨gb112, 0, none⟩ = some (.int .u64 x113000_25) := (blk_cell BK112.out 0).trans rfl
              have hcz48_1 : wc.cell? ⟨gb112, 1, none⟩ = some (.int .u64 x113001_25) := (blk_cell BK112.out 1).trans rfl
              have hfz48_0 := blk_frozen BK112.out 0
              have hfz48_1 := blk_frozen BK112.out 1
              go_wp2
              go_ret2
              exact ⟨by first | rfl | (simp [errW_none, errW_some] <;> rfl) | (simp [*, errW_none, errW_some] <;> rfl), by repeat (first | (with_reducible first | exact HB.out | apply below_alloc | apply pw_below_drewN | apply below_drew1 | refine below_set ?_ GE103.out | refine below_set ?_ GE112.out) | exact HB.out)⟩
             ·replace c46 := Bool.eq_false_iff.mpr c46
              subst c46
              have H1 : (some (wrap64 (x113001_25), true)) = some (r1, r2) := by rw [if_neg (show ¬ (false = true) by decide)] at H; exact H
              clear H
              have H := H1
              clear H1
              simp only [Option.some.injEq, Prod.mk.injEq] at H
              obtain ⟨rfl, rfl⟩ := H
              have hnb49 := NB112_103.out
              have hnc49 := NB103_112.out
              have hcz50_0 : wc.cell? ⟨gb112, 0, none⟩ = some (.int .u64 x113000_25) := (blk_cell BK112.out 0).trans rfl
              have hcz50_1 : wc.cell? ⟨gb112, 1, none⟩ = some (.int .u64 x113001_25) := (blk_cell BK112.out 1).trans rfl
              have hfz50_0 := blk_frozen BK112.out 0
              have hfz50_1 := blk_frozen BK112.out 1
              go_wp2
              go_ret2
              exact ⟨by first | rfl | (simp [errW_none, errW_some] <;> rfl) | (simp [*, errW_none, errW_some] <;> rfl), by repeat (first | (with_reducible first | exact HB.out | apply below_alloc | apply pw_below_drewN | apply below_drew1 | refine below_set ?_ GE103.out | refine below_set ?_ GE112.out) | exact HB.out)⟩
end Go.Proofs.Ytlgfnclgkhfhpaa.P
end

section
namespace Go.Proofs.Ytlgfnclgkhfhpaa.P
open Go.RowKit Go.Proofs.YtlgfnclgkhfhpaaW.PrintWords Go.Proofs.YtlgfnclgkhfhpaaW.PrintLast Go.Proofs.YtlgfnclgkhfhpaaW.PrintMore
attribute [local go_sem] max2_int min2_int max_two min_two max_three min_three max_four min_four   -- for this text's walks alone
set_option linter.unusedVariables false
set_option linter.unusedSimpArgs false
theorem mul64_ok (a b : Int) (ha : 0 ≤ a) (ha1 : a < 18446744073709551616) (hb : 0 ≤ b) (hb1 : b < 18446744073709551616) :
  bits_Mul64.f a b = some (a * b / 18446744073709551616, a * b % 18446744073709551616) := by
 obtain ⟨x, rfl⟩ := Int.eq_ofNat_of_zero_le ha
 obtain ⟨y, rfl⟩ := Int.eq_ofNat_of_zero_le hb
 have hx : x < 18446744073709551616 := by omega
 have hy : y < 18446744073709551616 := by omega
 obtain ⟨bd, bt, bw, hhi⟩ := Lib.mul64_hi x y hx hy
 have e1 : Go.bits .and .u64 (x : Int) 4294967295 = ((x % 4294967296 : Nat) : Int) := by rw [and_low32 _ ha (by omega)]; omega
 have e2 : Go.bits .and .u64 (y : Int) 4294967295 = ((y % 4294967296 : Nat) : Int) := by rw [and_low32 _ hb (by omega)]; omega
 have d1 : (x : Int) / 4294967296 = ((x / 4294967296 : Nat) : Int) := by omega
 have d2 : (y : Int) / 4294967296 = ((y / 4294967296 : Nat) : Int) := by omega
 unfold bits_Mul64.f
 rw [e1, e2, d1, d2]
 simp only [← Int.natCast_mul]
 have b3 := Lib.half_mul_le (a := x / 4294967296) (b := y % 4294967296) (by omega) (by omega)
 have b4 := Lib.half_mul_le (a := x % 4294967296) (b := y / 4294967296) (by omega) (by omega)
 have b5 := Lib.half_mul_le (a := x / 4294967296) (b := y / 4294967296) (by omega) (by omega)
 generalize (x % 4294967296) * (y % 4294967296) = w0 at *
 generalize (x / 4294967296) * (y % 4294967296) = p1 at *
 generalize (x % 4294967296) * (y / 4294967296) = p2 at *
 generalize (x / 4294967296) * (y / 4294967296) = p3 at *
 generalize x * y = N at *
 have w1 : IntKind.u64.wrap ((w0 : Nat) : Int) = (w0 : Int) := u64_id _ (by omega) (by omega)
 have w2 : IntKind.u64.wrap ((p1 : Nat) : Int) = (p1 : Int) := u64_id _ (by omega) (by omega)
 have w3 : IntKind.u64.wrap ((p2 : Nat) : Int) = (p2 : Int) := u64_id _ (by omega) (by omega)
 have w4 : IntKind.u64.wrap ((p3 : Nat) : Int) = (p3 : Int) := u64_id _ (by omega) (by omega)
 rw [w1, w2, w3, w4]
 have t : (p1 : Int) + (w0 : Int) / 4294967296 = ((p1 + w0 / 4294967296 : Nat) : Int) := by omega
 rw [t]
 generalize hT : p1 + w0 / 4294967296 = T at *
 have w5 : IntKind.u64.wrap ((T : Nat) : Int) = (T : Int) := u64_id _ (by omega) (by omega)
 have e3 : Go.bits .and .u64 (T : Int) 4294967295 = ((T % 4294967296 : Nat) : Int) := by rw [and_low32 _ (by omega) (by omega)]; omega
 rw [w5, e3]
 rw [u64_id (((T % 4294967296 : Nat) : Int) + (p2 : Int)) (by omega) (by omega), u64_id ((p3 : Int) + (T : Int) / 4294967296) (by omega) (by omega), u64_id _ (by omega) (by omega), u64_mod]
 congr 2
 ·omega
theorem msize (a : Int) (h : isI64 a) : muldiv_size.f a = some (if a < 0 then -a else a) := by
 unfold isI64 at h
 unfold muldiv_size.f
 simp only [u64_mod]
 split
 ·congr 1; omega
 ·congr 1; omega
theorem quotient_tail (below : Bool) (hi lo : Int) (h0 : 0 ≤ hi) (l0 : 0 ≤ lo) (l1 : lo < 18446744073709551616) :
  muldiv_quotient.j2 3 below hi lo = some (hold64 (if below = true then -(hi * 18446744073709551616 + lo) else hi * 18446744073709551616 + lo)) := by
 cases below with
 | true =>
  simp only [muldiv_quotient.j2, muldiv_quotient.j3, muldiv_quotient.j4, if_true]
  unfold hold64
  by_cases hz : hi > 0
  ·rw [if_pos hz, if_pos (by omega)]
  ·rw [if_neg hz]
   by_cases hl : lo > 9223372036854775808
   ·rw [decide_eq_true (by omega), if_pos rfl, if_pos (by omega)]
   ·rw [decide_eq_false (by omega), if_neg (by simp), if_neg (by omega), if_neg (by omega)]
    congr 2
    rw [u64_mod]; unfold wrap64; omega
 | false =>
  simp only [muldiv_quotient.j2, muldiv_quotient.j3, muldiv_quotient.j4, Bool.false_eq_true, if_false]
  unfold hold64
  by_cases hz : hi > 0
  ·rw [if_pos hz, if_pos trivial, if_neg (by omega), if_pos (by omega)]
  ·rw [if_neg hz]
   by_cases hl : lo > 9223372036854775807
   ·rw [decide_eq_true (by omega), if_pos rfl, if_neg (by omega), if_pos (by omega)]
   ·rw [decide_eq_false (by omega), if_neg (by simp), if_neg (by omega), if_neg (by omega)]
    congr 2
    unfold wrap64; omega
theorem up_ok (left C : Int) (below : Bool) (how : Int) (h0 : 0 ≤ left) (h1 : left < C) (hC : C < 18446744073709551616) (hh : how = 1 ∨ how = 2 ∨ how = 3) :
  muldiv_up.f left C below how = some (decide (1 = (if below = true then (if how = 1 then (if 0 < left then 1 else 0) else if how = 3 then 0 else (if C < 2 * left then 1 else 0)) else (if how = 1 then 0 else if how = 3 then (if 0 < left then 1 else 0) else (if C ≤ 2 * left then 1 else 0)) : Int))) := by
 unfold muldiv_up.f
 have w : IntKind.u64.wrap (C - left) = C - left := u64_id _ (by omega) (by omega)
 rw [w]
 rcases hh with rfl | rfl | rfl <;> cases below <;> simp
 all_goals (try (split <;> simp_all <;> omega))
 all_goals (try omega)
theorem quotient_j1 (x2 how N C : Int) (below : Bool) (hx : isI64 x2) (hC : C = if x2 < 0 then -x2 else x2) (hC0 : 0 < C) (hN : 0 ≤ N) (hN1 : N ≤ 85070591730234615865843651857942052864) (hh : how = 1 ∨ how = 2 ∨ how = 3) :
  muldiv_quotient.j1 4 x2 how below (N / 18446744073709551616) (N % 18446744073709551616) = some (hold64 (rnd (if below = true then -N else N) C how)) := by
 have ms := msize x2 hx
 rw [← hC] at ms
 have hCu : C ≤ 9223372036854775808 := by unfold isI64 at hx; rw [hC]; split <;> omega
 obtain ⟨t1, t2, t3, t4⟩ := two_halves N C hN hC0
 simp only [muldiv_quotient.j1, ms, Option.bind_some]
 unfold muldiv_divided.f
 rw [if_pos ⟨⟨by omega, by omega⟩, ⟨by omega, by omega⟩, ⟨hC0, by omega⟩⟩]
 simp only [Option.bind_some]
 rw [← t2]
 have r0 := Int.emod_nonneg N (show C ≠ 0 by omega)
 have r1 := Int.emod_lt_of_pos N hC0
 rw [up_ok _ _ _ _ r0 r1 (by omega) hh, Option.bind_some]
 have q0 : 0 ≤ N / 18446744073709551616 / C := Int.ediv_nonneg (by omega) (by omega)
 have q1 : N / 18446744073709551616 / C ≤ N / 18446744073709551616 := Int.ediv_le_self _ (by omega)
 have val : ∀ u : Int, u = 0 ∨ u = 1 → (if decide (1 = u) = true then
    muldiv_quotient.j2 3 below (IntKind.u64.wrap (N / 18446744073709551616 / C + add64c ((N / 18446744073709551616 % C * 18446744073709551616 + N % 18446744073709551616) / C) 1 0)) (add64s ((N / 18446744073709551616 % C * 18446744073709551616 + N % 18446744073709551616) / C) 1 0)
   else muldiv_quotient.j2 3 below (N / 18446744073709551616 / C) ((N / 18446744073709551616 % C * 18446744073709551616 + N % 18446744073709551616) / C)) = some (hold64 (if below = true then -(N / C + u) else N / C + u)) := by
  intro u hu
  generalize (N / 18446744073709551616 % C * 18446744073709551616 + N % 18446744073709551616) / C = lo at *
  generalize N / 18446744073709551616 / C = hi at *
  rcases hu with rfl | rfl
  ·rw [if_neg (by simp), quotient_tail below hi lo q0 t3 t4, Int.add_zero, t1]
  ·rw [if_pos (by simp)]
   have s1 : add64s lo 1 0 = (lo + 1) % 18446744073709551616 := by unfold add64s; simp only [show (1 : Int).toNat = 1 from rfl, show (0 : Int).toNat = 0 from rfl]; omega
   have s2 : add64c lo 1 0 = (lo + 1) / 18446744073709551616 := by unfold add64c; simp only [show (1 : Int).toNat = 1 from rfl, show (0 : Int).toNat = 0 from rfl]; omega
   rw [s1, s2, u64_id _ (by omega) (by omega), quotient_tail below _ _ (by omega) (by omega) (by omega)]
   congr 3
   all_goals omega
 cases below with
 | true =>
  simp only [if_true] at val ⊢
  rw [rnd_neg N C how hC0]
  apply val
  split
  ·split <;> simp
  ·split
   ·simp
   ·split <;> simp
 | false =>
  simp only [Bool.false_eq_true, if_false] at val ⊢
  rw [rnd_pos N C how hC0]
  apply val
  split
  ·simp
  ·split
   ·split <;> simp
   ·split <;> simp
theorem quotient_ok (a b c how : Int) (ha : isI64 a) (hb : isI64 b) (hc : isI64 c) : muldiv_quotient.f 5 a b c how = some (mdq a b c how) := by
 unfold muldiv_quotient.f mdq
 by_cases hz : c = 0
 ·rw [if_pos hz, if_pos (Or.inl hz)]; rfl
 rw [if_neg hz]
 by_cases hl : how < 1
 ·rw [if_pos hl, if_pos (Or.inr (Or.inl hl))]; rfl
 rw [if_neg hl]
 by_cases hg : how > 3
 ·rw [decide_eq_true hg, if_pos (Or.inr (Or.inr hg))]; rfl
 rw [decide_eq_false hg, if_neg (by omega)]
 simp only [muldiv_quotient.j0, Bool.false_eq_true, if_false]
 rw [msize a ha, msize b hb]
 simp only [Option.bind_some]
 have ha' := ha; have hb' := hb; have hc' := hc
 unfold isI64 at ha' hb' hc'
 rw [mul64_ok _ _ (by split <;> omega) (by split <;> omega) (by split <;> omega) (by split <;> omega)]
 simp only [Option.bind_some]
 have hN := abs_mul_le (a := if a < 0 then -a else a) (b := if b < 0 then -b else b) (by split <;> omega) (by split <;> omega) (by split <;> omega) (by split <;> omega)
 have hN0 := Int.mul_nonneg (a := if a < 0 then -a else a) (b := if b < 0 then -b else b) (by split <;> omega) (by split <;> omega)
 have J := fun bl => quotient_j1 c how ((if a < 0 then -a else a) * (if b < 0 then -b else b)) (if c < 0 then -c else c) bl hc rfl (by split <;> omega) hN0 hN (by omega)
 simp only [J]
 by_cases h1 : a < 0 <;> by_cases h2 : b < 0 <;> by_cases h3 : c < 0 <;> simp [h1, h2, h3, Int.neg_mul, Int.mul_neg]
def muldiv_quotient_s.f (a0 : Int) (a1 : Int) (a2 : Int) (a3 : Int) : Option (Int × Bool) := if isI64 a0 ∧ isI64 a1 ∧ isI64 a2 then some (mdq a0 a1 a2 a3) else none
theorem muldiv_quotient_s.calls (a0 : Int) (a1 : Int) (a2 : Int) (a3 : Int) (r1 : Int) (r2 : Bool) (w : World) (h : muldiv_quotient_s.f a0 a1 a2 a3 = some (r1, r2)) :
  Calls Try.prog 55 #[.int .i64 a0, .int .i64 a1, .int .i64 a2, .int .i64 a3] w fun e w' => e = .returned (.tuple #[.int .i64 r1, .bool r2]) ∧ Below w.heap.size w w' := by
 unfold muldiv_quotient_s.f at h
 split at h
 ·rename_i hb
  exact muldiv_quotient.calls 5 a0 a1 a2 a3 r1 r2 w ((quotient_ok a0 a1 a2 a3 hb.1 hb.2.1 hb.2.2).trans h)
 ·cases h
def muldiv_Do.f (a0 : Int) (a1 : Int) (a2 : Int) (a3 : Int) : Option (Int) := (muldiv_quotient_s.f a0 a1 a2 a3).bind fun bt115 => (some bt115.1)
set_option maxHeartbeats 8000000 in
set_option maxRecDepth 100000 in
theorem muldiv_Do.calls (a0 : Int) (a1 : Int) (a2 : Int) (a3 : Int) (r : Int) (w : World) (h : muldiv_Do.f a0 a1 a2 a3 = some r) :
  Calls Try.prog 50 #[.int .i64 a0, .int .i64 a1, .int .i64 a2, .int .i64 a3] w fun e w' => e = .returned (.int .i64 r) ∧ Below w.heap.size w w' := by
 have HB := Aside0.mk (Below.refl w.heap.size w)
 have H : ((muldiv_quotient_s.f a0 a1 a2 a3).bind fun bt115 => (some bt115.1)) = some r := h
 clear h
 replace H := Option.bind_eq_some_iff.mp H
 obtain ⟨⟨t115, t116⟩, A50, H⟩ := H
 replace H : (some t115) = some r := H
 have A5 := Aside0.mk A50
 clear A50
 obtain rfl := Option.some.inj H
 go_enter Try.func50, Try.ntmps50
 go_wp2_with (first | ((with_reducible refine gate_callee (f := 55) rfl ?_); refine goesL_ (some 16) rfl rfl Try.func55 (by kernel_rfl) rfl #[.int .i64 a0, .int .i64 a1, .int .i64 a2, .int .i64 a3] rfl (by (try simp only [List.map_toArray, List.map_cons, List.map_nil]); first | done | rfl | (simp only [List.length_drop, List.length_take]; rfl)) ?_; (with_reducible refine (muldiv_quotient_s.calls a0 a1 a2 a3 t115 t116 _ A5.out).mono ?_); rintro e w6 ⟨rfl, hb⟩; refine ⟨_, rfl, ?_⟩; have n0_ := Aside0.mk (below_step (by repeat (first | (with_reducible first | exact HB.out | apply below_alloc | apply pw_below_drewN | apply below_drew1) | exact HB.out)) hb); clear HB; have HB := n0_; clear n0_; (try clear hb); (try clear hb2); (try clear hk); (try clear hi)))
 go_ret
 exact ⟨by first | rfl | (simp [errW_none, errW_some] <;> rfl) | (simp [*, errW_none, errW_some] <;> rfl), by repeat (first | (with_reducible first | exact HB.out | apply below_alloc | apply pw_below_drewN | apply below_drew1) | exact HB.out)⟩
def units_rate_bytes.f (a0 : Int) (a1 : Int) : Option (Int) := (muldiv_Do.f a0 a1 8000000 1).bind fun t117 => (some t117)
set_option maxHeartbeats 8000000 in
set_option maxRecDepth 100000 in
theorem units_rate_bytes.calls (a0 : Int) (a1 : Int) (r : Int) (w : World) (h : units_rate_bytes.f a0 a1 = some r) :
  Calls Try.prog 53 #[.int .i64 a0, .int .i64 a1] w fun e w' => e = .returned (.int .i64 r) ∧ Below w.heap.size w w' := by
 have HB := Aside0.mk (Below.refl w.heap.size w)
 have H : ((muldiv_Do.f a0 a1 8000000 1).bind fun t117 => (some t117)) = some r := h
 clear h
 replace H := Option.bind_eq_some_iff.mp H
 obtain ⟨t117, A30, H⟩ := H
 replace H : (some t117) = some r := H
 have A3 := Aside0.mk A30
 clear A30
 obtain rfl := Option.some.inj H
 go_enter Try.func53, Try.ntmps53
 go_wp2_with (first | ((with_reducible refine gate_callee (f := 50) rfl ?_); refine goesL_ (some 7) rfl rfl Try.func50 (by kernel_rfl) rfl #[.int .i64 a0, .int .i64 a1, .int .i64 8000000, .int .i64 1] rfl (by (try simp only [List.map_toArray, List.map_cons, List.map_nil]); first | done | rfl | (simp only [List.length_drop, List.length_take]; rfl)) ?_; (with_reducible refine (muldiv_Do.calls a0 a1 8000000 1 t117 _ A3.out).mono ?_); rintro e w4 ⟨rfl, hb⟩; refine ⟨_, rfl, ?_⟩; have n0_ := Aside0.mk (below_step (by repeat (first | (with_reducible first | exact HB.out | apply below_alloc | apply pw_below_drewN | apply below_drew1) | exact HB.out)) hb); clear HB; have HB := n0_; clear n0_; (try clear hb); (try clear hb2); (try clear hk); (try clear hi)))
 go_ret
 exact ⟨by first | rfl | (simp [errW_none, errW_some] <;> rfl) | (simp [*, errW_none, errW_some] <;> rfl), by repeat (first | (with_reducible first | exact HB.out | apply below_alloc | apply pw_below_drewN | apply below_drew1) | exact HB.out)⟩
def units_Bytes.f (a0 : Int) (a1 : Int) : Option (Int) := units_rate_bytes.f a0 a1
set_option maxHeartbeats 4000000 in
set_option maxRecDepth 100000 in
theorem units_Bytes.calls (a0 : Int) (a1 : Int) (r : Int) (w : World) (h : units_Bytes.f a0 a1 = some r) :
  Calls Try.prog 43 #[.int .i64 a0, .int .i64 a1] w fun e w' => e = .returned (.int .i64 r) ∧ Below w.heap.size w w' := by
 have H := Aside0.mk (show units_rate_bytes.f a0 a1 = some r from h)
 clear h
 go_enter Try.func43, Try.ntmps43
 go_wp2_with (first | (go_at_call 53; (with_reducible refine (units_rate_bytes.calls a0 a1 r _ H.out).mono ?_); rintro e w' ⟨rfl, hb⟩) | go_in)
 go_ret
 exact ⟨rfl, hb⟩
def probe_Probe_Start.f (s0_0 : Int) (s0_1 : Int) (s0_2 : Int) (s0_3 : Int) (s0_4 : Int) (s0_5 : Int) (s0_6 : Int) (s0_7 : Int) (s0_8 : Int) (s0_9 : Int) (s0_10 : Int) (s0_11 : Int) (s0_12 : Int) (s0_13 : Int) (s0_14 : Int) (a1 : Int) : Option (Int × Int × Int × Int × Int × Int × Int × Int × Int × Int × Int × Int × Int × Int × Int × Int) := if a1 < 1 then some (0, s0_0, s0_1, s0_2, s0_3, s0_4, s0_5, s0_6, s0_7, s0_8, s0_9, s0_10, s0_11, s0_12, s0_13, s0_14) else (if 17179869184 < a1 then some (0, s0_0, s0_1, s0_2, s0_3, s0_4, s0_5, s0_6, s0_7, s0_8, s0_9, s0_10, s0_11, s0_12, s0_13, s0_14) else (if 0 < s0_1 then some (0, s0_0, s0_1, s0_2, s0_3, s0_4, s0_5, s0_6, s0_7, s0_8, s0_9, s0_10, s0_11, s0_12, s0_13, s0_14) else (if s0_3 = 0 ∧ s0_0 = 0 then ((units_Bytes.f a1 15000).bind fun b => (some (mx b 6000)).bind fun n => some (1, 1, 1, s0_2, 1, a1, n, n, 0, 0, 0, 0, 0, 0, 0, 0)) else none)))
def probe_Probe_Start.T5 : Bool × List (List Nat × List Nat) := (true, [([], []), ([0], [0]), ([1], [1]), ([2], [2]), ([], []), ([4], [4]), ([5], [5]), ([6], [6]), ([], []), ([], []), ([], []), ([8, 9, 10], [8, 9, 10]), ([11], [11]), ([3, 7, 12, 0, 1, 2, 3, 4, 5, 6, 7, 8, 9, 10, 11, 12], [3, 7, 12])])
def probe_Probe_Start.B5 : List Nat := [0, 1, 3, 7, 0, 16, 48, 112, 0, 0, 0, 1792, 3840, 8191]
theorem probe_Probe_Start.tab5 : rtab .any (opsOf Try.f23 5) = probe_Probe_Start.T5 := by kernel_rfl
theorem probe_Probe_Start.bits5 : waitsOk probe_Probe_Start.T5.2 probe_Probe_Start.B5 = true := by kernel_rfl
def probe_Probe_Start.T6 : Bool × List (List Nat × List Nat) := (true, [([], []), ([0], [0]), ([1], [1]), ([2], [2]), ([], []), ([4], [4]), ([5], [5]), ([6], [6]), ([7], [7]), ([3, 8], [3, 8])])
def probe_Probe_Start.B6 : List Nat := [0, 1, 3, 7, 0, 16, 48, 112, 240, 511]
theorem probe_Probe_Start.tab6 : rtab .any (opsOf Try.f23 6) = probe_Probe_Start.T6 := by kernel_rfl
theorem probe_Probe_Start.bits6 : waitsOk probe_Probe_Start.T6.2 probe_Probe_Start.B6 = true := by kernel_rfl
set_option maxHeartbeats 16000000 in
set_option maxRecDepth 100000 in
theorem probe_Probe_Start.calls (g : Nat) (s0_0 : Int) (s0_1 : Int) (s0_2 : Int) (s0_3 : Int) (s0_4 : Int) (s0_5 : Int) (s0_6 : Int) (s0_7 : Int) (s0_8 : Int) (s0_9 : Int) (s0_10 : Int) (s0_11 : Int) (s0_12 : Int) (s0_13 : Int) (s0_14 : Int) (a1 : Int) (r1 : Int) (r2 : Int) (r3 : Int) (r4 : Int) (r5 : Int) (r6 : Int) (r7 : Int) (r8 : Int) (r9 : Int) (r10 : Int) (r11 : Int) (r12 : Int) (r13 : Int) (r14 : Int) (r15 : Int) (r16 : Int) (w0 w : World) (hI : IsS75 w0 w g s0_0 s0_1 s0_2 s0_3 s0_4 s0_5 s0_6 s0_7 s0_8 s0_9 s0_10 s0_11 s0_12 s0_13 s0_14) (hB : Below w0.heap.size w0 w) (h : probe_Probe_Start.f s0_0 s0_1 s0_2 s0_3 s0_4 s0_5 s0_6 s0_7 s0_8 s0_9 s0_10 s0_11 s0_12 s0_13 s0_14 a1 = some (r1, r2, r3, r4, r5, r6, r7, r8, r9, r10, r11, r12, r13, r14, r15, r16)) :
  Calls Try.prog 23 #[.pointer (some ⟨g, 0, none⟩), .int .i64 a1] w fun e w' => e = .returned (.int .i64 r1) ∧ IsS75 w0 w' g r2 r3 r4 r5 r6 r7 r8 r9 r10 r11 r12 r13 r14 r15 r16 ∧ Below w0.heap.size w0 w' ∧ KeepT w w' := by
 have hpn35_eql : ∀ (a_ : Addr) (W_ : World), (Go.binOp .eql 35 (.pointer (some a_)) (.pointer none)).run Try.prog W_ = .ok (.bool false) W_ := fun _ _ => by kernel_rfl
 simp only [probe_Probe_Start.f] at h
 by_cases c1 : a1 < 1
 ·rw [if_pos c1] at h
  simp only [Option.some.injEq, Prod.mk.injEq] at h
  obtain ⟨rfl, rfl, rfl, rfl, rfl, rfl, rfl, rfl, rfl, rfl, rfl, rfl, rfl, rfl, rfl, rfl⟩ := h
  have c1b : decide (a1 < 1) = true := decide_eq_true c1
  clear c1
  rcases hI with ⟨e3, m, h0⟩ | ⟨e3, m, c, h0⟩
  ·have HG := Aside0.mk h0.1
   have HS : Aside0 (IsS75 w0 w g s0_0 s0_1 s0_2 s0_3 s0_4 s0_5 s0_6 s0_7 s0_8 s0_9 s0_10 s0_11 s0_12 s0_13 s0_14) := ⟨.inl ⟨e3, m, h0⟩⟩
   clear h0 e3
   have HB := Aside0.mk hB
   clear hB
   have hg_0 := (blk_cell HG.out 0).trans rfl
   have hg_1 := (blk_cell HG.out 1).trans rfl
   have hg_2 := (blk_cell HG.out 2).trans rfl
   have hg_3 := (blk_cell HG.out 3).trans rfl
   have hfg_0 := blk_frozen HG.out 0
   have hfg_1 := blk_frozen HG.out 1
   have hfg_2 := blk_frozen HG.out 2
   have hfg_3 := blk_frozen HG.out 3
   go_enter Try.func23, Try.ntmps23
   go_wp2
   go_ret
   exact ⟨rfl, by repeat (first | exact HS.out | apply IsS75.alloc | apply IsS75.drewN | apply IsS75.drew), by repeat (first | exact HB.out | apply below_alloc | apply pw_below_drewN | apply below_drew1), by repeat (first | exact KeepT.refl _ | refine KeepT.below ?_ (below_drew (Below.refl _ _)) | refine KeepT.below ?_ (pw_below_drewN (Below.refl _ _) _))⟩
  ·have HG := Aside0.mk h0.1
   have HS : Aside0 (IsS75 w0 w g s0_0 s0_1 s0_2 s0_3 s0_4 s0_5 s0_6 s0_7 s0_8 s0_9 s0_10 s0_11 s0_12 s0_13 s0_14) := ⟨.inr ⟨e3, m, c, h0⟩⟩
   clear h0 e3
   have HB := Aside0.mk hB
   clear hB
   have hg_0 := (blk_cell HG.out 0).trans rfl
   have hg_1 := (blk_cell HG.out 1).trans rfl
   have hg_2 := (blk_cell HG.out 2).trans rfl
   have hg_3 := (blk_cell HG.out 3).trans rfl
   have hfg_0 := blk_frozen HG.out 0
   have hfg_1 := blk_frozen HG.out 1
   have hfg_2 := blk_frozen HG.out 2
   have hfg_3 := blk_frozen HG.out 3
   go_enter Try.func23, Try.ntmps23
   go_wp2
   go_ret
   exact ⟨rfl, by repeat (first | exact HS.out | apply IsS75.alloc | apply IsS75.drewN | apply IsS75.drew), by repeat (first | exact HB.out | apply below_alloc | apply pw_below_drewN | apply below_drew1), by repeat (first | exact KeepT.refl _ | refine KeepT.below ?_ (below_drew (Below.refl _ _)) | refine KeepT.below ?_ (pw_below_drewN (Below.refl _ _) _))⟩
 rw [if_neg c1] at h
 have c1b : decide (a1 < 1) = false := decide_eq_false c1
 clear c1
 by_cases c2 : 17179869184 < a1
 ·rw [if_pos c2] at h
  simp only [Option.some.injEq, Prod.mk.injEq] at h
  obtain ⟨rfl, rfl, rfl, rfl, rfl, rfl, rfl, rfl, rfl, rfl, rfl, rfl, rfl, rfl, rfl, rfl⟩ := h
  have c2b : decide (17179869184 < a1) = true := decide_eq_true c2
  clear c2
  rcases hI with ⟨e3, m, h0⟩ | ⟨e3, m, c, h0⟩
  ·have HG := Aside0.mk h0.1
   have HS : Aside0 (IsS75 w0 w g s0_0 s0_1 s0_2 s0_3 s0_4 s0_5 s0_6 s0_7 s0_8 s0_9 s0_10 s0_11 s0_12 s0_13 s0_14) := ⟨.inl ⟨e3, m, h0⟩⟩
   clear h0 e3
   have HB := Aside0.mk hB
   clear hB
   have hg_0 := (blk_cell HG.out 0).trans rfl
   have hg_1 := (blk_cell HG.out 1).trans rfl
   have hg_2 := (blk_cell HG.out 2).trans rfl
   have hg_3 := (blk_cell HG.out 3).trans rfl
   have hfg_0 := blk_frozen HG.out 0
   have hfg_1 := blk_frozen HG.out 1
   have hfg_2 := blk_frozen HG.out 2
   have hfg_3 := blk_frozen HG.out 3
   go_enter Try.func23, Try.ntmps23
   go_wp2
   go_ret
   exact ⟨rfl, by repeat (first | exact HS.out | apply IsS75.alloc | apply IsS75.drewN | apply IsS75.drew), by repeat (first | exact HB.out | apply below_alloc | apply pw_below_drewN | apply below_drew1), by repeat (first | exact KeepT.refl _ | refine KeepT.below ?_ (below_drew (Below.refl _ _)) | refine KeepT.below ?_ (pw_below_drewN (Below.refl _ _) _))⟩
  ·have HG := Aside0.mk h0.1
   have HS : Aside0 (IsS75 w0 w g s0_0 s0_1 s0_2 s0_3 s0_4 s0_5 s0_6 s0_7 s0_8 s0_9 s0_10 s0_11 s0_12 s0_13 s0_14) := ⟨.inr ⟨e3, m, c, h0⟩⟩
   clear h0 e3
   have HB := Aside0.mk hB
   clear hB
   have hg_0 := (blk_cell HG.out 0).trans rfl
   have hg_1 := (blk_cell HG.out 1).trans rfl
   have hg_2 := (blk_cell HG.out 2).trans rfl
   have hg_3 := (blk_cell HG.out 3).trans rfl
   have hfg_0 := blk_frozen HG.out 0
   have hfg_1 := blk_frozen HG.out 1
   have hfg_2 := blk_frozen HG.out 2
   have hfg_3 := blk_frozen HG.out 3
   go_enter Try.func23, Try.ntmps23
   go_wp2
   go_ret
   exact ⟨rfl, by repeat (first | exact HS.out | apply IsS75.alloc | apply IsS75.drewN | apply IsS75.drew), by repeat (first | exact HB.out | apply below_alloc | apply pw_below_drewN | apply below_drew1), by repeat (first | exact KeepT.refl _ | refine KeepT.below ?_ (below_drew (Below.refl _ _)) | refine KeepT.below ?_ (pw_below_drewN (Below.refl _ _) _))⟩
 rw [if_neg c2] at h
 have c2b : decide (17179869184 < a1) = false := decide_eq_false c2
 clear c2
 by_cases c3 : 0 < s0_1
 ·rw [if_pos c3] at h
  simp only [Option.some.injEq, Prod.mk.injEq] at h
  obtain ⟨rfl, rfl, rfl, rfl, rfl, rfl, rfl, rfl, rfl, rfl, rfl, rfl, rfl, rfl, rfl, rfl⟩ := h
  have c3b : decide (0 < s0_1) = true := decide_eq_true c3
  clear c3
  rcases hI with ⟨e3, m, h0⟩ | ⟨e3, m, c, h0⟩
  ·have HG := Aside0.mk h0.1
   have HS : Aside0 (IsS75 w0 w g s0_0 s0_1 s0_2 s0_3 s0_4 s0_5 s0_6 s0_7 s0_8 s0_9 s0_10 s0_11 s0_12 s0_13 s0_14) := ⟨.inl ⟨e3, m, h0⟩⟩
   clear h0 e3
   have HB := Aside0.mk hB
   clear hB
   have hg_0 := (blk_cell HG.out 0).trans rfl
   have hg_1 := (blk_cell HG.out 1).trans rfl
   have hg_2 := (blk_cell HG.out 2).trans rfl
   have hg_3 := (blk_cell HG.out 3).trans rfl
   have hfg_0 := blk_frozen HG.out 0
   have hfg_1 := blk_frozen HG.out 1
   have hfg_2 := blk_frozen HG.out 2
   have hfg_3 := blk_frozen HG.out 3
   go_enter Try.func23, Try.ntmps23
   go_wp2
   go_ret
   exact ⟨rfl, by repeat (first | exact HS.out | apply IsS75.alloc | apply IsS75.drewN | apply IsS75.drew), by repeat (first | exact HB.out | apply below_alloc | apply pw_below_drewN | apply below_drew1), by repeat (first | exact KeepT.refl _ | refine KeepT.below ?_ (below_drew (Below.refl _ _)) | refine KeepT.below ?_ (pw_below_drewN (Below.refl _ _) _))⟩
  ·have HG := Aside0.mk h0.1
   have HS : Aside0 (IsS75 w0 w g s0_0 s0_1 s0_2 s0_3 s0_4 s0_5 s0_6 s0_7 s0_8 s0_9 s0_10 s0_11 s0_12 s0_13 s0_14) := ⟨.inr ⟨e3, m, c, h0⟩⟩
   clear h0 e3
   have HB := Aside0.mk hB
   clear hB
   have hg_0 := (blk_cell HG.out 0).trans rfl
   have hg_1 := (blk_cell HG.out 1).trans rfl
   have hg_2 := (blk_cell HG.out 2).trans rfl
   have hg_3 := (blk_cell HG.out 3).trans rfl
   have hfg_0 := blk_frozen HG.out 0
   have hfg_1 := blk_frozen HG.out 1
   have hfg_2 := blk_frozen HG.out 2
   have hfg_3 := blk_frozen HG.out 3
   go_enter Try.func23, Try.ntmps23
   go_wp2
   go_ret
   exact ⟨rfl, by repeat (first | exact HS.out | apply IsS75.alloc | apply IsS75.drewN | apply IsS75.drew), by repeat (first | exact HB.out | apply below_alloc | apply pw_below_drewN | apply below_drew1), by repeat (first | exact KeepT.refl _ | refine KeepT.below ?_ (below_drew (Below.refl _ _)) | refine KeepT.below ?_ (pw_below_drewN (Below.refl _ _) _))⟩
 rw [if_neg c3] at h
 have c3b : decide (0 < s0_1) = false := decide_eq_false c3
 clear c3
 by_cases c4 : s0_3 = 0 ∧ s0_0 = 0
 rotate_left
 ·rw [if_neg c4] at h; cases h
 rw [if_pos c4] at h
 obtain ⟨d3, d0⟩ := c4
 subst d3 d0
 replace h := Option.bind_eq_some_iff.mp h
 obtain ⟨b, A1_, h⟩ := h
 have A1 := Aside0.mk A1_
 clear A1_
 replace h := Option.bind_eq_some_iff.mp h
 obtain ⟨n, hn_, h⟩ := h
 have hn := Option.some.inj hn_
 clear hn_
 have hn2 : (if b < 6000 then 6000 else b) = n := hn
 clear hn
 simp only [Option.some.injEq, Prod.mk.injEq] at h
 obtain ⟨rfl, rfl, rfl, rfl, rfl, rfl, rfl, rfl, rfl, rfl, rfl, rfl, rfl, rfl, rfl, rfl⟩ := h
 rcases hI with ⟨e3, m, h0⟩ | ⟨e3, m, c, h0⟩
 rotate_left
 ·omega
 have HP := Aside0.mk (show PF0 w0 w w g m 0 s0_1 s0_2 from ⟨h0, hB, KeepT.refl w⟩)
 clear h0 hB e3
 have hg_0 := (blk_cell HP.out.1.1 0).trans rfl
 have hg_1 := (blk_cell HP.out.1.1 1).trans rfl
 have hg_2 := (blk_cell HP.out.1.1 2).trans rfl
 have hg_3 := (blk_cell HP.out.1.1 3).trans rfl
 have fhg_0 := blk_frozen HP.out.1.1 0
 have fhg_1 := blk_frozen HP.out.1.1 1
 have fhg_2 := blk_frozen HP.out.1.1 2
 have fhg_3 := blk_frozen HP.out.1.1 3
 go_enter Try.func23, Try.ntmps23
 have w64_1 : wrap64 (0 + 1) = 1 := by unfold wrap64; decide
 go_wp2_with (first | ((with_reducible refine gate_callee (f := 43) rfl ?_); refine goesL_ (some 31) rfl rfl Try.func43 (by kernel_rfl) rfl #[.int .i64 a1, .int .i64 15000] rfl (by (try simp only [List.map_toArray, List.map_cons, List.map_nil]); first | done | rfl) ?_; (with_reducible refine (units_Bytes.calls a1 15000 b _ A1.out).mono ?_); rintro e w5 ⟨rfl, hb⟩; refine ⟨_, rfl, ?_⟩; have n0_ := Aside0.mk (PF0.below (PF0.setg0 HP.out 1) hb); clear HP hb; have HP := n0_; clear n0_; clear hg_0 hg_1 hg_2 hg_3 fhg_0 fhg_1 fhg_2 fhg_3; have hg_0 := (blk_cell HP.out.1.1 0).trans rfl; have hg_1 := (blk_cell HP.out.1.1 1).trans rfl; have hg_2 := (blk_cell HP.out.1.1 2).trans rfl; have hg_3 := (blk_cell HP.out.1.1 3).trans rfl; have fhg_0 := blk_frozen HP.out.1.1 0; have fhg_1 := blk_frozen HP.out.1.1 1; have fhg_2 := blk_frozen HP.out.1.1 2; have fhg_3 := blk_frozen HP.out.1.1 3))
 clear hg_0 hg_1 hg_2 hg_3 fhg_0 fhg_1 fhg_2 fhg_3
 have n0_ := Aside0.mk (PF0.drew HP.out)
 clear HP
 have HP := n0_
 clear n0_
 refine start_ (n := 14) (S := fun w' => w'.cell? ⟨g, 0, none⟩ = some (.map (some m)) ∧ w'.cell? ⟨g, 1, none⟩ = some (.int .i64 1)) (ds := [13]) #[false, false, false, false, false, false, false, false, false, false, false, false, false, false] (by kernel_rfl) rfl rfl ⟨(blk_cell HP.out.1.1 0).trans rfl, (blk_cell HP.out.1.1 1).trans rfl⟩ (fun hHeld => ?_); refine with_tabW probe_Probe_Start.tab5 probe_Probe_Start.bits5 (fun HT_ HW_ => ?_)
 generalize World.drew w5 = w6 at HP hHeld ⊢
 refine pure_ (i := 0) (N := some 33) (v := ?_) (a' := ?_) #[true, false, false, false, false, false, false, false, false, false, false, false, false, false] rfl rfl (any_of HT_.out (by kernel_rfl)) (fun _ _ _ h => h) (Or.inl ⟨by rfl, ?_⟩) ?_ ?_
 rotate_left
 ·intro w'
  go_simp
  with_reducible rfl
 rotate_left
 ·simp only [Act.put, List.setIfInBounds_toArray, List.set_cons_zero, List.set_cons_succ, i64_w, i32_w]
  rfl
 refine pure_ (i := 1) (N := some 34) (v := ?_) (a' := ?_) #[true, true, false, false, false, false, false, false, false, false, false, false, false, false] rfl rfl (any_of HT_.out (by kernel_rfl)) (fun _ _ _ h => h) (Or.inl ⟨by rfl, ?_⟩) ?_ ?_
 rotate_left
 ·intro w'
  go_simp
  with_reducible rfl
 rotate_left
 ·simp only [Act.put, List.setIfInBounds_toArray, List.set_cons_zero, List.set_cons_succ, i64_w, i32_w]
  rfl
 refine pure_ (i := 2) (N := some 35) (v := ?_) (a' := ?_) #[true, true, true, false, false, false, false, false, false, false, false, false, false, false] rfl rfl (any_of HT_.out (by kernel_rfl)) (fun _ _ _ h => h) (Or.inl ⟨by rfl, ?_⟩) ?_ ?_
 rotate_left
 ·intro w'
  go_simp
  with_reducible rfl
 rotate_left
 ·simp only [Act.put, List.setIfInBounds_toArray, List.set_cons_zero, List.set_cons_succ, i64_w, i32_w]
  rfl
 refine take_ (i := 3) (N := some 36) (v := ?_) (a' := ?_) #[true, true, true, true, false, false, false, false, false, false, false, false, false, false] rfl rfl (take_ofW HT_.out HW_.out (by kernel_rfl)) (fun _ _ _ h => h) (Or.inl ⟨by rfl, ?_⟩) hHeld ?_ ?_
 rotate_left
 ·rintro w' ⟨s0, s1⟩
  go_simp
  with_reducible rfl
 rotate_left
 ·simp only [Act.put, List.setIfInBounds_toArray, List.set_cons_zero, List.set_cons_succ, i64_w, i32_w]
  rfl
 refine pure_ (i := 4) (N := some 37) (v := ?_) (a' := ?_) #[true, true, true, true, true, false, false, false, false, false, false, false, false, false] rfl rfl (any_of HT_.out (by kernel_rfl)) (fun _ _ _ h => h) (Or.inl ⟨by rfl, ?_⟩) ?_ ?_
 rotate_left
 ·intro w'
  go_simp
  with_reducible rfl
 rotate_left
 ·simp only [Act.put, List.setIfInBounds_toArray, List.set_cons_zero, List.set_cons_succ, i64_w, i32_w]
  rfl
 refine pure_ (i := 5) (N := some 38) (v := ?_) (a' := ?_) #[true, true, true, true, true, true, false, false, false, false, false, false, false, false] rfl rfl (any_of HT_.out (by kernel_rfl)) (fun _ _ _ h => h) (Or.inl ⟨by rfl, ?_⟩) ?_ ?_
 rotate_left
 ·intro w'
  go_simp
  with_reducible rfl
 rotate_left
 ·simp only [Act.put, List.setIfInBounds_toArray, List.set_cons_zero, List.set_cons_succ, i64_w, i32_w]
  rfl
 refine pure_ (i := 6) (N := some 39) (v := ?_) (a' := ?_) #[true, true, true, true, true, true, true, false, false, false, false, false, false, false] rfl rfl (any_of HT_.out (by kernel_rfl)) (fun _ _ _ h => h) (Or.inl ⟨by rfl, ?_⟩) ?_ ?_
 rotate_left
 ·intro w'
  go_simp
  with_reducible rfl
 rotate_left
 ·simp only [Act.put, List.setIfInBounds_toArray, List.set_cons_zero, List.set_cons_succ, i64_w, i32_w]
  rfl
 refine take_ (i := 7) (N := some 40) (v := ?_) (a' := ?_) #[true, true, true, true, true, true, true, true, false, false, false, false, false, false] rfl rfl (take_ofW HT_.out HW_.out (by kernel_rfl)) (fun _ _ _ h => h) (Or.inl ⟨by rfl, ?_⟩) hHeld ?_ ?_
 rotate_left
 ·rintro w' ⟨s0, s1⟩
  go_simp
  with_reducible rfl
 rotate_left
 ·simp only [Act.put, List.setIfInBounds_toArray, List.set_cons_zero, List.set_cons_succ, i64_w, i32_w]
  rfl
 refine pure_ (i := 8) (N := some 41) (v := ?_) (a' := ?_) #[true, true, true, true, true, true, true, true, true, false, false, false, false, false] rfl rfl (any_of HT_.out (by kernel_rfl)) (fun _ _ _ h => h) (Or.inl ⟨by rfl, ?_⟩) ?_ ?_
 rotate_left
 ·intro w'
  go_simp
  with_reducible rfl
 rotate_left
 ·simp only [Act.put, List.setIfInBounds_toArray, List.set_cons_zero, List.set_cons_succ, i64_w, i32_w]
  rfl
 refine pure_ (i := 9) (N := some 42) (v := ?_) (a' := ?_) #[true, true, true, true, true, true, true, true, true, true, false, false, false, false] rfl rfl (any_of HT_.out (by kernel_rfl)) (fun _ _ _ h => h) (Or.inl ⟨by rfl, ?_⟩) ?_ ?_
 rotate_left
 ·intro w'
  go_simp
  with_reducible rfl
 rotate_left
 ·simp only [Act.put, List.setIfInBounds_toArray, List.set_cons_zero, List.set_cons_succ, i64_w, i32_w]
  rfl
 refine pure_ (i := 10) (N := some 43) (v := ?_) (a' := ?_) #[true, true, true, true, true, true, true, true, true, true, true, false, false, false] rfl rfl (any_of HT_.out (by kernel_rfl)) (fun _ _ _ h => h) (Or.inl ⟨by rfl, ?_⟩) ?_ ?_
 rotate_left
 ·intro w'
  go_simp
  with_reducible rfl
 rotate_left
 ·simp only [Act.put, List.setIfInBounds_toArray, List.set_cons_zero, List.set_cons_succ, i64_w, i32_w]
  rfl
 refine pure_ (i := 11) (N := some 44) (v := ?_) (a' := ?_) #[true, true, true, true, true, true, true, true, true, true, true, true, false, false] rfl rfl (any_of HT_.out (by kernel_rfl)) (fun _ _ _ h => h) (Or.inl ⟨by rfl, ?_⟩) ?_ ?_
 rotate_left
 ·intro w'
  go_simp
  with_reducible rfl
 rotate_left
 ·simp only [Act.put, List.setIfInBounds_toArray, List.set_cons_zero, List.set_cons_succ, i64_w, i32_w]
  rfl
 refine one_ (i := 12) (N := some 45) #[true, true, true, true, true, true, true, true, true, true, true, true, true, false] rfl rfl (one_of HT_.out (by kernel_rfl)) (by decide) (fun K hK => ?_)
 refine box_step (by rfl) (N := 45) rfl (cs := #[.int .i64 a1, .int .i64 n, .int .i64 n, .int .i64 0, .int .i64 0, .int .i64 0, .int .i64 0, .int .i64 0, .int .i64 0, .int .i64 0, .int .i64 0]) (t := 78) (by first | (go_simp; done) | (go_simp; rfl)) ?_
 intro c hc w7 hbox hb
 have hc0 : w0.heap.size ≤ c := by rw [hc]; exact HP.out.2.1.size
 have n0_ := Aside0.mk (PF0.below HP.out hb)
 clear HP hb hc
 have HP := n0_
 clear n0_
 refine hK.out _ _ ⟨(blk_cell HP.out.1.1 0).trans rfl, (blk_cell HP.out.1.1 1).trans rfl⟩ (fun hHeld => ?_)
 clear hK K
 refine norm_ (a' := ?_) ?_ ?_
 rotate_left
 ·show Act.put _ (some 45) _ = _
  simp only [Act.put, List.setIfInBounds_toArray, List.set_cons_zero, List.set_cons_succ, i64_w, i32_w]
  rfl
 obtain ⟨cl, hm⟩ := HP.out.1.2.2.1
 have hpu := put_run (v := .pointer (some ⟨c, 0, none⟩)) hm
 have HF := Aside0.mk (PF0.put HP.out hm hbox hc0)
 clear HP hm hbox hc0
 refine last_ (i := 13) (N := none) #[true, true, true, true, true, true, true, true, true, true, true, true, true, true] rfl rfl (one_of HT_.out (by kernel_rfl)) (by decide) (fun K hK => ?_)
 refine skip_ (w1 := putm w7 m (.map #[{ key := .int .i64 1, val := .pointer (some ⟨c, 0, none⟩), born := cl }] (cl + 1))) (by rfl) rfl ?_ ?_
 ·go_simp
 generalize putm w7 m (.map #[{ key := .int .i64 1, val := .pointer (some ⟨c, 0, none⟩), born := cl }] (cl + 1)) = w8 at HF ⊢
 clear hpu
 have HP := HF
 clear HF
 refine hK.out _ _ ?_
 clear hK K
 refine done_ (done_of HT_.out (by kernel_rfl)) ?_
 clear hHeld HT_ HW_
 try go_wp2
 have n0_ := Aside0.mk (PF.drew HP.out)
 clear HP
 have HP := n0_
 clear n0_
 refine start_ (n := 10) (S := fun w' => w'.cell? ⟨g, 0, none⟩ = some (.map (some m)) ∧ w'.cell? ⟨g, 1, none⟩ = some (.int .i64 1)) (ds := [9]) #[false, false, false, false, false, false, false, false, false, false] (by kernel_rfl) rfl rfl ⟨(blk_cell HP.out.1.1 0).trans rfl, (blk_cell HP.out.1.1 1).trans rfl⟩ (fun hHeld => ?_); refine with_tabW probe_Probe_Start.tab6 probe_Probe_Start.bits6 (fun HT_ HW_ => ?_)
 generalize World.drew w8 = w9 at HP hHeld ⊢
 refine pure_ (i := 0) (N := some 46) (v := ?_) (a' := ?_) #[true, false, false, false, false, false, false, false, false, false] rfl rfl (any_of HT_.out (by kernel_rfl)) (fun _ _ _ h => h) (Or.inl ⟨by rfl, ?_⟩) ?_ ?_
 rotate_left
 ·intro w'
  go_simp
  with_reducible rfl
 rotate_left
 ·simp only [Act.put, List.setIfInBounds_toArray, List.set_cons_zero, List.set_cons_succ, i64_w, i32_w]
  rfl
 refine pure_ (i := 1) (N := some 47) (v := ?_) (a' := ?_) #[true, true, false, false, false, false, false, false, false, false] rfl rfl (any_of HT_.out (by kernel_rfl)) (fun _ _ _ h => h) (Or.inl ⟨by rfl, ?_⟩) ?_ ?_
 rotate_left
 ·intro w'
  go_simp
  with_reducible rfl
 rotate_left
 ·simp only [Act.put, List.setIfInBounds_toArray, List.set_cons_zero, List.set_cons_succ, i64_w, i32_w]
  rfl
 refine pure_ (i := 2) (N := some 48) (v := ?_) (a' := ?_) #[true, true, true, false, false, false, false, false, false, false] rfl rfl (any_of HT_.out (by kernel_rfl)) (fun _ _ _ h => h) (Or.inl ⟨by rfl, ?_⟩) ?_ ?_
 rotate_left
 ·intro w'
  go_simp
  with_reducible rfl
 rotate_left
 ·simp only [Act.put, List.setIfInBounds_toArray, List.set_cons_zero, List.set_cons_succ, i64_w, i32_w]
  rfl
 refine take_ (i := 3) (N := some 49) (v := ?_) (a' := ?_) #[true, true, true, true, false, false, false, false, false, false] rfl rfl (take_ofW HT_.out HW_.out (by kernel_rfl)) (fun _ _ _ h => h) (Or.inl ⟨by rfl, ?_⟩) hHeld ?_ ?_
 rotate_left
 ·rintro w' ⟨s0, s1⟩
  go_simp
  with_reducible rfl
 rotate_left
 ·simp only [Act.put, List.setIfInBounds_toArray, List.set_cons_zero, List.set_cons_succ, i64_w, i32_w]
  rfl
 refine pure_ (i := 4) (N := some 50) (v := ?_) (a' := ?_) #[true, true, true, true, true, false, false, false, false, false] rfl rfl (any_of HT_.out (by kernel_rfl)) (fun _ _ _ h => h) (Or.inl ⟨by rfl, ?_⟩) ?_ ?_
 rotate_left
 ·intro w'
  go_simp
  with_reducible rfl
 rotate_left
 ·simp only [Act.put, List.setIfInBounds_toArray, List.set_cons_zero, List.set_cons_succ, i64_w, i32_w]
  rfl
 refine pure_ (i := 5) (N := some 51) (v := ?_) (a' := ?_) #[true, true, true, true, true, true, false, false, false, false] rfl rfl (any_of HT_.out (by kernel_rfl)) (fun _ _ _ h => h) (Or.inl ⟨by rfl, ?_⟩) ?_ ?_
 rotate_left
 ·intro w'
  go_simp
  with_reducible rfl
 rotate_left
 ·simp only [Act.put, List.setIfInBounds_toArray, List.set_cons_zero, List.set_cons_succ, i64_w, i32_w]
  rfl
 refine pure_ (i := 6) (N := some 52) (v := ?_) (a' := ?_) #[true, true, true, true, true, true, true, false, false, false] rfl rfl (any_of HT_.out (by kernel_rfl)) (fun _ _ _ h => h) (Or.inl ⟨by rfl, ?_⟩) ?_ ?_
 rotate_left
 ·intro w'
  go_simp
  with_reducible rfl
 rotate_left
 ·simp only [Act.put, List.setIfInBounds_toArray, List.set_cons_zero, List.set_cons_succ, i64_w, i32_w]
  rfl
 refine take_ (i := 7) (N := some 53) (v := ?_) (a' := ?_) #[true, true, true, true, true, true, true, true, false, false] rfl rfl (take_ofW HT_.out HW_.out (by kernel_rfl)) (fun _ _ _ h => h) (Or.inl ⟨by rfl, ?_⟩) hHeld ?_ ?_
 rotate_left
 ·rintro w' ⟨s0, s1⟩
  go_simp
  with_reducible rfl
 rotate_left
 ·simp only [Act.put, List.setIfInBounds_toArray, List.set_cons_zero, List.set_cons_succ, i64_w, i32_w]
  rfl
 refine pure_ (i := 8) (N := some 54) (v := ?_) (a' := ?_) #[true, true, true, true, true, true, true, true, true, false] rfl rfl (any_of HT_.out (by kernel_rfl)) (fun _ _ _ h => h) (Or.inl ⟨by rfl, ?_⟩) ?_ ?_
 rotate_left
 ·intro w'
  go_simp
  with_reducible rfl
 rotate_left
 ·simp only [Act.put, List.setIfInBounds_toArray, List.set_cons_zero, List.set_cons_succ, i64_w, i32_w]
  rfl
 obtain ⟨em, cl9, hm⟩ := HP.out.1.2.2.1
 have hdl := fun ty => del_run (k := wrap64 (-3)) (ty := ty) hm (by unfold wrap64; decide)
 have HF := Aside0.mk (PF.same HP.out hm)
 clear HP hm
 refine last_ (i := 9) (N := none) #[true, true, true, true, true, true, true, true, true, true] rfl rfl (one_of HT_.out (by kernel_rfl)) (by decide) (fun K hK => ?_)
 refine value_ (v := .tuple #[]) (w1 := putm w9 m (.map #[{ key := .int .i64 1, val := .pointer (some ⟨c, 0, none⟩), born := em }] cl9)) (by rfl) rfl ?_ ?_
 ·go_simp
 generalize putm w9 m (.map #[{ key := .int .i64 1, val := .pointer (some ⟨c, 0, none⟩), born := em }] cl9) = w10 at HF ⊢
 clear hdl
 have HP := HF
 clear HF
 refine hK.out _ _ ?_
 clear hK K
 refine done_ (done_of HT_.out (by kernel_rfl)) ?_
 clear hHeld HT_ HW_
 have hg_0 := (blk_cell HP.out.1.1 0).trans rfl
 have hg_1 := (blk_cell HP.out.1.1 1).trans rfl
 have hg_2 := (blk_cell HP.out.1.1 2).trans rfl
 have hg_3 := (blk_cell HP.out.1.1 3).trans rfl
 have hfg_0 := blk_frozen HP.out.1.1 0
 have hfg_1 := blk_frozen HP.out.1.1 1
 have hfg_2 := blk_frozen HP.out.1.1 2
 have hfg_3 := blk_frozen HP.out.1.1 3
 have hx1 := (blk_cell (PF.setg1 HP.out 1).1.1 1).trans rfl
 go_wp2
 have hF := HP.out.setg1 1
 go_ret
 exact ⟨rfl, .inr ⟨rfl, m, c, hF.1⟩, hF.2.1, hF.2.2⟩
end Go.Proofs.Ytlgfnclgkhfhpaa.P
end

section
namespace Go.Proofs.Ytlgfnclgkhfhpaa.P
open Go.RowKit Go.Proofs.YtlgfnclgkhfhpaaW.PrintWords Go.Proofs.YtlgfnclgkhfhpaaW.PrintLast Go.Proofs.YtlgfnclgkhfhpaaW.PrintMore
attribute [local go_sem] max2_int min2_int max_two min_two max_three min_three max_four min_four   -- for this text's walks alone
set_option linter.unusedVariables false
set_option linter.unusedSimpArgs false
def probe_Probe_Open.f (s0_0 : Int) (s0_1 : Int) (s0_2 : Int) (s0_3 : Int) (s0_4 : Int) (s0_5 : Int) (s0_6 : Int) (s0_7 : Int) (s0_8 : Int) (s0_9 : Int) (s0_10 : Int) (s0_11 : Int) (s0_12 : Int) (s0_13 : Int) (s0_14 : Int) : Option (Int × Int × Int × Int × Int × Int × Int × Int × Int × Int × Int × Int × Int × Int × Int × Int × Int × Int) := if s0_1 = 0 then some (0, 0, 0, s0_0, s0_1, s0_2, s0_3, s0_4, s0_5, s0_6, s0_7, s0_8, s0_9, s0_10, s0_11, s0_12, s0_13, s0_14) else (if s0_3 = 1 ∧ s0_1 = 1 then some (s0_1, s0_4, s0_6, s0_0, s0_1, s0_2, s0_3, s0_4, s0_5, s0_6, s0_7, s0_8, s0_9, s0_10, s0_11, s0_12, s0_13, s0_14) else none)
def probe_Probe_Open.T3 : Bool × List (List Nat × List Nat) := (true, [([], []), ([0], [0]), ([1], [1]), ([2], [2]), ([], []), ([4], [4]), ([5], [5]), ([6], [6]), ([3, 7], [3, 7]), ([8, 0, 1, 2, 3, 4, 5, 6, 7, 8], [8])])
def probe_Probe_Open.B3 : List Nat := [0, 1, 3, 7, 0, 16, 48, 112, 255, 511]
theorem probe_Probe_Open.tab3 : rtab .any (opsOf Try.f24 3) = probe_Probe_Open.T3 := by kernel_rfl
theorem probe_Probe_Open.bits3 : waitsOk probe_Probe_Open.T3.2 probe_Probe_Open.B3 = true := by kernel_rfl
def probe_Probe_Open.T4 : Bool × List (List Nat × List Nat) := (true, [([], []), ([0], [0]), ([1], [1]), ([2], [2]), ([], []), ([4], [4]), ([5], [5]), ([6], [6]), ([], []), ([8], [8]), ([9], [9]), ([10], [10]), ([3, 0, 1, 2, 3], [3]), ([7, 12, 0, 1, 2, 3, 4, 5, 6, 7, 12], [7]), ([11, 13, 0, 1, 2, 3, 4, 5, 6, 7, 8, 9, 10, 11, 12, 13], [11])])
def probe_Probe_Open.B4 : List Nat := [0, 1, 3, 7, 0, 16, 48, 112, 0, 256, 768, 1792, 15, 4351, 16383]
theorem probe_Probe_Open.tab4 : rtab .any (opsOf Try.f24 4) = probe_Probe_Open.T4 := by kernel_rfl
theorem probe_Probe_Open.bits4 : waitsOk probe_Probe_Open.T4.2 probe_Probe_Open.B4 = true := by kernel_rfl
set_option maxHeartbeats 16000000 in
set_option maxRecDepth 100000 in
theorem probe_Probe_Open.calls (g : Nat) (s0_0 : Int) (s0_1 : Int) (s0_2 : Int) (s0_3 : Int) (s0_4 : Int) (s0_5 : Int) (s0_6 : Int) (s0_7 : Int) (s0_8 : Int) (s0_9 : Int) (s0_10 : Int) (s0_11 : Int) (s0_12 : Int) (s0_13 : Int) (s0_14 : Int)  (r1 : Int) (r2 : Int) (r3 : Int) (r4 : Int) (r5 : Int) (r6 : Int) (r7 : Int) (r8 : Int) (r9 : Int) (r10 : Int) (r11 : Int) (r12 : Int) (r13 : Int) (r14 : Int) (r15 : Int) (r16 : Int) (r17 : Int) (r18 : Int) (w0 w : World) (hI : IsS75 w0 w g s0_0 s0_1 s0_2 s0_3 s0_4 s0_5 s0_6 s0_7 s0_8 s0_9 s0_10 s0_11 s0_12 s0_13 s0_14) (hB : Below w0.heap.size w0 w) (h : probe_Probe_Open.f s0_0 s0_1 s0_2 s0_3 s0_4 s0_5 s0_6 s0_7 s0_8 s0_9 s0_10 s0_11 s0_12 s0_13 s0_14  = some (r1, r2, r3, r4, r5, r6, r7, r8, r9, r10, r11, r12, r13, r14, r15, r16, r17, r18)) :
  Calls Try.prog 24 #[.pointer (some ⟨g, 0, none⟩)] w fun e w' => e = .returned (.tuple #[.int .i64 r1, .int .i64 r2, .int .i64 r3]) ∧ IsS75 w0 w' g r4 r5 r6 r7 r8 r9 r10 r11 r12 r13 r14 r15 r16 r17 r18 ∧ Below w0.heap.size w0 w' ∧ KeepT w w' := by
 have hpn35_eql : ∀ (a_ : Addr) (W_ : World), (Go.binOp .eql 35 (.pointer (some a_)) (.pointer none)).run Try.prog W_ = .ok (.bool false) W_ := fun _ _ => by kernel_rfl
 simp only [probe_Probe_Open.f] at h
 by_cases c1 : s0_1 = 0
 ·rw [if_pos c1] at h
  simp only [Option.some.injEq, Prod.mk.injEq] at h
  obtain ⟨rfl, rfl, rfl, rfl, rfl, rfl, rfl, rfl, rfl, rfl, rfl, rfl, rfl, rfl, rfl, rfl, rfl, rfl⟩ := h
  have c1b : (s0_1 == 0) = true := beq_iff_eq.mpr c1
  clear c1
  rcases hI with ⟨e3, m, h0⟩ | ⟨e3, m, c, h0⟩
  ·have HG := Aside0.mk h0.1
   have HS : Aside0 (IsS75 w0 w g s0_0 s0_1 s0_2 s0_3 s0_4 s0_5 s0_6 s0_7 s0_8 s0_9 s0_10 s0_11 s0_12 s0_13 s0_14) := ⟨.inl ⟨e3, m, h0⟩⟩
   clear h0 e3
   have HB := Aside0.mk hB
   clear hB
   have hg_0 := (blk_cell HG.out 0).trans rfl
   have hg_1 := (blk_cell HG.out 1).trans rfl
   have hg_2 := (blk_cell HG.out 2).trans rfl
   have hg_3 := (blk_cell HG.out 3).trans rfl
   have hfg_0 := blk_frozen HG.out 0
   have hfg_1 := blk_frozen HG.out 1
   have hfg_2 := blk_frozen HG.out 2
   have hfg_3 := blk_frozen HG.out 3
   go_enter Try.func24, Try.ntmps24
   go_wp2
   refine bodyPost_ret (v := .tuple #[.int .i64 0, .int .i64 0, .int .i64 0]) (by simp [results, Try.results24, go_sem]) rfl ?_
   exact ⟨rfl, by repeat (first | exact HS.out | apply IsS75.alloc | apply IsS75.drewN | apply IsS75.drew), by repeat (first | exact HB.out | apply below_alloc | apply pw_below_drewN | apply below_drew1), by repeat (first | exact KeepT.refl _ | refine KeepT.below ?_ (below_drew (Below.refl _ _)) | refine KeepT.below ?_ (pw_below_drewN (Below.refl _ _) _))⟩
  ·have HG := Aside0.mk h0.1
   have HS : Aside0 (IsS75 w0 w g s0_0 s0_1 s0_2 s0_3 s0_4 s0_5 s0_6 s0_7 s0_8 s0_9 s0_10 s0_11 s0_12 s0_13 s0_14) := ⟨.inr ⟨e3, m, c, h0⟩⟩
   clear h0 e3
   have HB := Aside0.mk hB
   clear hB
   have hg_0 := (blk_cell HG.out 0).trans rfl
   have hg_1 := (blk_cell HG.out 1).trans rfl
   have hg_2 := (blk_cell HG.out 2).trans rfl
   have hg_3 := (blk_cell HG.out 3).trans rfl
   have hfg_0 := blk_frozen HG.out 0
   have hfg_1 := blk_frozen HG.out 1
   have hfg_2 := blk_frozen HG.out 2
   have hfg_3 := blk_frozen HG.out 3
   go_enter Try.func24, Try.ntmps24
   go_wp2
   refine bodyPost_ret (v := .tuple #[.int .i64 0, .int .i64 0, .int .i64 0]) (by simp [results, Try.results24, go_sem]) rfl ?_
   exact ⟨rfl, by repeat (first | exact HS.out | apply IsS75.alloc | apply IsS75.drewN | apply IsS75.drew), by repeat (first | exact HB.out | apply below_alloc | apply pw_below_drewN | apply below_drew1), by repeat (first | exact KeepT.refl _ | refine KeepT.below ?_ (below_drew (Below.refl _ _)) | refine KeepT.below ?_ (pw_below_drewN (Below.refl _ _) _))⟩
 ·rw [if_neg c1] at h
  by_cases c2 : s0_3 = 1 ∧ s0_1 = 1
  rotate_left
  ·rw [if_neg c2] at h; cases h
  rw [if_pos c2] at h
  simp only [Option.some.injEq, Prod.mk.injEq] at h
  obtain ⟨rfl, rfl, rfl, rfl, rfl, rfl, rfl, rfl, rfl, rfl, rfl, rfl, rfl, rfl, rfl, rfl, rfl, rfl⟩ := h
  obtain ⟨d3, d1⟩ := c2
  subst d3 d1
  rcases hI with ⟨e3, m, h0⟩ | ⟨e3, m, c, h0⟩
  ·omega
  have HP := Aside0.mk (show PF w0 w w g m c s0_0 1 s0_2 #[.int .i64 s0_4, .int .i64 s0_5, .int .i64 s0_6, .int .i64 s0_7, .int .i64 s0_8, .int .i64 s0_9, .int .i64 s0_10, .int .i64 s0_11, .int .i64 s0_12, .int .i64 s0_13, .int .i64 s0_14] from ⟨h0, hB, KeepT.refl w⟩)
  obtain ⟨em, cl, hm⟩ := h0.2.2.1
  clear h0 hB hm c1 e3
  have hg_0 := (blk_cell HP.out.1.1 0).trans rfl
  have hg_1 := (blk_cell HP.out.1.1 1).trans rfl
  have hg_2 := (blk_cell HP.out.1.1 2).trans rfl
  have hg_3 := (blk_cell HP.out.1.1 3).trans rfl
  have hfg_0 := blk_frozen HP.out.1.1 0
  have hfg_1 := blk_frozen HP.out.1.1 1
  have hfg_2 := blk_frozen HP.out.1.1 2
  have hfg_3 := blk_frozen HP.out.1.1 3
  go_enter Try.func24, Try.ntmps24
  go_wp2
  clear hg_0 hg_1 hg_2 hg_3 hfg_0 hfg_1 hfg_2 hfg_3
  have n0_ := Aside0.mk (PF.drew HP.out)
  clear HP
  have HP := n0_
  clear n0_
  refine start_ (n := 10) (S := fun w' => w'.cell? ⟨g, 0, none⟩ = some (.map (some m)) ∧ w'.cell? ⟨g, 2, none⟩ = some (.int .i64 1) ∧ (∃ e cl, w'.heap[m]? = some (.map #[{ key := .int .i64 1, val := .pointer (some ⟨c, 0, none⟩), born := e }] cl))) (ds := []) #[false, false, false, false, false, false, false, false, false, false] (by kernel_rfl) rfl rfl ⟨(blk_cell HP.out.1.1 0).trans rfl, (blk_cell HP.out.1.1 2).trans rfl, HP.out.1.2.2.1⟩ (fun hHeld => ?_); refine with_tabW probe_Probe_Open.tab3 probe_Probe_Open.bits3 (fun HT_ HW_ => ?_)
  generalize World.drew w = w1 at HP hHeld ⊢
  refine pure_ (i := 0) (N := some 15) (v := ?_) (a' := ?_) #[true, false, false, false, false, false, false, false, false, false] rfl rfl (any_of HT_.out (by kernel_rfl)) (fun _ _ _ h => h) (Or.inl ⟨by rfl, ?_⟩) ?_ ?_
  rotate_left
  ·intro w'
   go_simp
   with_reducible rfl
  rotate_left
  ·simp only [Act.put, List.setIfInBounds_toArray, List.set_cons_zero, List.set_cons_succ, i64_w, i32_w]
   rfl
  refine pure_ (i := 1) (N := some 16) (v := ?_) (a' := ?_) #[true, true, false, false, false, false, false, false, false, false] rfl rfl (any_of HT_.out (by kernel_rfl)) (fun _ _ _ h => h) (Or.inl ⟨by rfl, ?_⟩) ?_ ?_
  rotate_left
  ·intro w'
   go_simp
   with_reducible rfl
  rotate_left
  ·simp only [Act.put, List.setIfInBounds_toArray, List.set_cons_zero, List.set_cons_succ, i64_w, i32_w]
   rfl
  refine pure_ (i := 2) (N := some 17) (v := ?_) (a' := ?_) #[true, true, true, false, false, false, false, false, false, false] rfl rfl (any_of HT_.out (by kernel_rfl)) (fun _ _ _ h => h) (Or.inl ⟨by rfl, ?_⟩) ?_ ?_
  rotate_left
  ·intro w'
   go_simp
   with_reducible rfl
  rotate_left
  ·simp only [Act.put, List.setIfInBounds_toArray, List.set_cons_zero, List.set_cons_succ, i64_w, i32_w]
   rfl
  refine take_ (i := 3) (N := some 18) (v := ?_) (a' := ?_) #[true, true, true, true, false, false, false, false, false, false] rfl rfl (take_ofW HT_.out HW_.out (by kernel_rfl)) (fun _ _ _ h => h) (Or.inl ⟨by rfl, ?_⟩) hHeld ?_ ?_
  rotate_left
  ·rintro w' ⟨s0, s1, ⟨e_, cl_, s2⟩⟩
   go_simp
   with_reducible rfl
  rotate_left
  ·simp only [Act.put, List.setIfInBounds_toArray, List.set_cons_zero, List.set_cons_succ, i64_w, i32_w]
   rfl
  refine pure_ (i := 4) (N := some 19) (v := ?_) (a' := ?_) #[true, true, true, true, true, false, false, false, false, false] rfl rfl (any_of HT_.out (by kernel_rfl)) (fun _ _ _ h => h) (Or.inl ⟨by rfl, ?_⟩) ?_ ?_
  rotate_left
  ·intro w'
   go_simp
   with_reducible rfl
  rotate_left
  ·simp only [Act.put, List.setIfInBounds_toArray, List.set_cons_zero, List.set_cons_succ, i64_w, i32_w]
   rfl
  refine pure_ (i := 5) (N := some 20) (v := ?_) (a' := ?_) #[true, true, true, true, true, true, false, false, false, false] rfl rfl (any_of HT_.out (by kernel_rfl)) (fun _ _ _ h => h) (Or.inl ⟨by rfl, ?_⟩) ?_ ?_
  rotate_left
  ·intro w'
   go_simp
   with_reducible rfl
  rotate_left
  ·simp only [Act.put, List.setIfInBounds_toArray, List.set_cons_zero, List.set_cons_succ, i64_w, i32_w]
   rfl
  refine pure_ (i := 6) (N := some 21) (v := ?_) (a' := ?_) #[true, true, true, true, true, true, true, false, false, false] rfl rfl (any_of HT_.out (by kernel_rfl)) (fun _ _ _ h => h) (Or.inl ⟨by rfl, ?_⟩) ?_ ?_
  rotate_left
  ·intro w'
   go_simp
   with_reducible rfl
  rotate_left
  ·simp only [Act.put, List.setIfInBounds_toArray, List.set_cons_zero, List.set_cons_succ, i64_w, i32_w]
   rfl
  refine take_ (i := 7) (N := some 22) (v := ?_) (a' := ?_) #[true, true, true, true, true, true, true, true, false, false] rfl rfl (take_ofW HT_.out HW_.out (by kernel_rfl)) (fun _ _ _ h => h) (Or.inl ⟨by rfl, ?_⟩) hHeld ?_ ?_
  rotate_left
  ·rintro w' ⟨s0, s1, ⟨e_, cl_, s2⟩⟩
   go_simp
   with_reducible rfl
  rotate_left
  ·simp only [Act.put, List.setIfInBounds_toArray, List.set_cons_zero, List.set_cons_succ, i64_w, i32_w]
   rfl
  refine take_ (i := 8) (N := some 23) (v := ?_) (a' := ?_) #[true, true, true, true, true, true, true, true, true, false] rfl rfl (take_ofW HT_.out HW_.out (by kernel_rfl)) (fun _ _ _ h => h) (Or.inl ⟨by rfl, ?_⟩) hHeld ?_ ?_
  rotate_left
  ·rintro w' ⟨s0, s1, ⟨e_, cl_, s2⟩⟩
   have hl_ := look_f (k := 1) s2 rfl
   go_simp
   with_reducible rfl
  rotate_left
  ·simp only [Act.put, List.setIfInBounds_toArray, List.set_cons_zero, List.set_cons_succ, i64_w, i32_w]
   rfl
  refine pure_ (i := 9) (N := some 5) (v := ?_) (a' := ?_) #[true, true, true, true, true, true, true, true, true, true] rfl rfl (any_of HT_.out (by kernel_rfl)) (fun _ _ _ h => h) (Or.inl ⟨by rfl, ?_⟩) ?_ ?_
  rotate_left
  ·intro w'
   go_simp
   with_reducible rfl
  rotate_left
  ·simp only [Act.put, List.setIfInBounds_toArray, List.set_cons_zero, List.set_cons_succ, i64_w, i32_w]
   rfl
  refine done_ (done_of HT_.out (by kernel_rfl)) ?_
  clear hHeld HT_ HW_
  try go_wp2
  have n0_ := Aside0.mk (PF.drew HP.out)
  clear HP
  have HP := n0_
  clear n0_
  refine start_ (n := 15) (S := fun w' => w'.cell? ⟨g, 2, none⟩ = some (.int .i64 1) ∧ w'.cell? ⟨c, 0, none⟩ = some (.int .i64 s0_4) ∧ w'.cell? ⟨c, 2, none⟩ = some (.int .i64 s0_6)) (ds := []) #[false, false, false, false, false, false, false, false, false, false, false, false, false, false, false] (by kernel_rfl) rfl rfl ⟨(blk_cell HP.out.1.1 2).trans rfl, (blk_cell HP.out.1.2.2.2.2.1 0).trans rfl, (blk_cell HP.out.1.2.2.2.2.1 2).trans rfl⟩ (fun hHeld => ?_); refine with_tabW probe_Probe_Open.tab4 probe_Probe_Open.bits4 (fun HT_ HW_ => ?_)
  generalize World.drew w1 = w2 at HP hHeld ⊢
  refine pure_ (i := 0) (N := some 24) (v := ?_) (a' := ?_) #[true, false, false, false, false, false, false, false, false, false, false, false, false, false, false] rfl rfl (any_of HT_.out (by kernel_rfl)) (fun _ _ _ h => h) (Or.inl ⟨by rfl, ?_⟩) ?_ ?_
  rotate_left
  ·intro w'
   go_simp
   with_reducible rfl
  rotate_left
  ·simp only [Act.put, List.setIfInBounds_toArray, List.set_cons_zero, List.set_cons_succ, i64_w, i32_w]
   rfl
  refine pure_ (i := 1) (N := some 25) (v := ?_) (a' := ?_) #[true, true, false, false, false, false, false, false, false, false, false, false, false, false, false] rfl rfl (any_of HT_.out (by kernel_rfl)) (fun _ _ _ h => h) (Or.inl ⟨by rfl, ?_⟩) ?_ ?_
  rotate_left
  ·intro w'
   go_simp
   with_reducible rfl
  rotate_left
  ·simp only [Act.put, List.setIfInBounds_toArray, List.set_cons_zero, List.set_cons_succ, i64_w, i32_w]
   rfl
  refine pure_ (i := 2) (N := some 26) (v := ?_) (a' := ?_) #[true, true, true, false, false, false, false, false, false, false, false, false, false, false, false] rfl rfl (any_of HT_.out (by kernel_rfl)) (fun _ _ _ h => h) (Or.inl ⟨by rfl, ?_⟩) ?_ ?_
  rotate_left
  ·intro w'
   go_simp
   with_reducible rfl
  rotate_left
  ·simp only [Act.put, List.setIfInBounds_toArray, List.set_cons_zero, List.set_cons_succ, i64_w, i32_w]
   rfl
  refine take_ (i := 3) (N := some 27) (v := ?_) (a' := ?_) #[true, true, true, true, false, false, false, false, false, false, false, false, false, false, false] rfl rfl (take_ofW HT_.out HW_.out (by kernel_rfl)) (fun _ _ _ h => h) (Or.inl ⟨by rfl, ?_⟩) hHeld ?_ ?_
  rotate_left
  ·rintro w' ⟨s0, s1, s2⟩
   go_simp
   with_reducible rfl
  rotate_left
  ·simp only [Act.put, List.setIfInBounds_toArray, List.set_cons_zero, List.set_cons_succ, i64_w, i32_w]
   rfl
  refine pure_ (i := 4) (N := some 28) (v := ?_) (a' := ?_) #[true, true, true, true, true, false, false, false, false, false, false, false, false, false, false] rfl rfl (any_of HT_.out (by kernel_rfl)) (fun _ _ _ h => h) (Or.inl ⟨by rfl, ?_⟩) ?_ ?_
  rotate_left
  ·intro w'
   go_simp
   with_reducible rfl
  rotate_left
  ·simp only [Act.put, List.setIfInBounds_toArray, List.set_cons_zero, List.set_cons_succ, i64_w, i32_w]
   rfl
  refine pure_ (i := 5) (N := some 29) (v := ?_) (a' := ?_) #[true, true, true, true, true, true, false, false, false, false, false, false, false, false, false] rfl rfl (any_of HT_.out (by kernel_rfl)) (fun _ _ _ h => h) (Or.inl ⟨by rfl, ?_⟩) ?_ ?_
  rotate_left
  ·intro w'
   go_simp
   with_reducible rfl
  rotate_left
  ·simp only [Act.put, List.setIfInBounds_toArray, List.set_cons_zero, List.set_cons_succ, i64_w, i32_w]
   rfl
  refine pure_ (i := 6) (N := some 30) (v := ?_) (a' := ?_) #[true, true, true, true, true, true, true, false, false, false, false, false, false, false, false] rfl rfl (any_of HT_.out (by kernel_rfl)) (fun _ _ _ h => h) (Or.inl ⟨by rfl, ?_⟩) ?_ ?_
  rotate_left
  ·intro w'
   go_simp
   with_reducible rfl
  rotate_left
  ·simp only [Act.put, List.setIfInBounds_toArray, List.set_cons_zero, List.set_cons_succ, i64_w, i32_w]
   rfl
  refine take_ (i := 7) (N := some 31) (v := ?_) (a' := ?_) #[true, true, true, true, true, true, true, true, false, false, false, false, false, false, false] rfl rfl (take_ofW HT_.out HW_.out (by kernel_rfl)) (fun _ _ _ h => h) (Or.inl ⟨by rfl, ?_⟩) hHeld ?_ ?_
  rotate_left
  ·rintro w' ⟨s0, s1, s2⟩
   go_simp
   with_reducible rfl
  rotate_left
  ·simp only [Act.put, List.setIfInBounds_toArray, List.set_cons_zero, List.set_cons_succ, i64_w, i32_w]
   rfl
  refine pure_ (i := 8) (N := some 32) (v := ?_) (a' := ?_) #[true, true, true, true, true, true, true, true, true, false, false, false, false, false, false] rfl rfl (any_of HT_.out (by kernel_rfl)) (fun _ _ _ h => h) (Or.inl ⟨by rfl, ?_⟩) ?_ ?_
  rotate_left
  ·intro w'
   go_simp
   with_reducible rfl
  rotate_left
  ·simp only [Act.put, List.setIfInBounds_toArray, List.set_cons_zero, List.set_cons_succ, i64_w, i32_w]
   rfl
  refine pure_ (i := 9) (N := some 33) (v := ?_) (a' := ?_) #[true, true, true, true, true, true, true, true, true, true, false, false, false, false, false] rfl rfl (any_of HT_.out (by kernel_rfl)) (fun _ _ _ h => h) (Or.inl ⟨by rfl, ?_⟩) ?_ ?_
  rotate_left
  ·intro w'
   go_simp
   with_reducible rfl
  rotate_left
  ·simp only [Act.put, List.setIfInBounds_toArray, List.set_cons_zero, List.set_cons_succ, i64_w, i32_w]
   rfl
  refine pure_ (i := 10) (N := some 34) (v := ?_) (a' := ?_) #[true, true, true, true, true, true, true, true, true, true, true, false, false, false, false] rfl rfl (any_of HT_.out (by kernel_rfl)) (fun _ _ _ h => h) (Or.inl ⟨by rfl, ?_⟩) ?_ ?_
  rotate_left
  ·intro w'
   go_simp
   with_reducible rfl
  rotate_left
  ·simp only [Act.put, List.setIfInBounds_toArray, List.set_cons_zero, List.set_cons_succ, i64_w, i32_w]
   rfl
  refine take_ (i := 11) (N := some 35) (v := ?_) (a' := ?_) #[true, true, true, true, true, true, true, true, true, true, true, true, false, false, false] rfl rfl (take_ofW HT_.out HW_.out (by kernel_rfl)) (fun _ _ _ h => h) (Or.inl ⟨by rfl, ?_⟩) hHeld ?_ ?_
  rotate_left
  ·rintro w' ⟨s0, s1, s2⟩
   go_simp
   with_reducible rfl
  rotate_left
  ·simp only [Act.put, List.setIfInBounds_toArray, List.set_cons_zero, List.set_cons_succ, i64_w, i32_w]
   rfl
  refine pure_ (i := 12) (N := some 2) (v := ?_) (a' := ?_) #[true, true, true, true, true, true, true, true, true, true, true, true, true, false, false] rfl rfl (any_of HT_.out (by kernel_rfl)) (fun _ _ _ h => h) (Or.inl ⟨by rfl, ?_⟩) ?_ ?_
  rotate_left
  ·intro w'
   go_simp
   with_reducible rfl
  rotate_left
  ·simp only [Act.put, List.setIfInBounds_toArray, List.set_cons_zero, List.set_cons_succ, i64_w, i32_w]
   rfl
  refine pure_ (i := 13) (N := some 3) (v := ?_) (a' := ?_) #[true, true, true, true, true, true, true, true, true, true, true, true, true, true, false] rfl rfl (any_of HT_.out (by kernel_rfl)) (fun _ _ _ h => h) (Or.inl ⟨by rfl, ?_⟩) ?_ ?_
  rotate_left
  ·intro w'
   go_simp
   with_reducible rfl
  rotate_left
  ·simp only [Act.put, List.setIfInBounds_toArray, List.set_cons_zero, List.set_cons_succ, i64_w, i32_w]
   rfl
  refine pure_ (i := 14) (N := some 4) (v := ?_) (a' := ?_) #[true, true, true, true, true, true, true, true, true, true, true, true, true, true, true] rfl rfl (any_of HT_.out (by kernel_rfl)) (fun _ _ _ h => h) (Or.inl ⟨by rfl, ?_⟩) ?_ ?_
  rotate_left
  ·intro w'
   go_simp
   with_reducible rfl
  rotate_left
  ·simp only [Act.put, List.setIfInBounds_toArray, List.set_cons_zero, List.set_cons_succ, i64_w, i32_w]
   rfl
  refine done_ (done_of HT_.out (by kernel_rfl)) ?_
  clear hHeld HT_ HW_
  go_wp2
  refine bodyPost_ret (v := .tuple #[.int .i64 1, .int .i64 s0_4, .int .i64 s0_6]) (by simp [results, Try.results24, go_sem]) rfl ?_
  exact ⟨rfl, .inr ⟨rfl, m, c, HP.out.1⟩, HP.out.2.1, HP.out.2.2⟩
def probe_good.f (a0 : Int) (a1 : Int) : Option (Bool) := if a0 ≥ 1 then (if a0 ≤ 1500 then (if a1 ≥ 0 then (some (decide (a1 ≤ 1125899906842624))) else (some false)) else (some false)) else (some false)
set_option maxHeartbeats 8000000 in
set_option maxRecDepth 100000 in
theorem probe_good.calls (a0 : Int) (a1 : Int) (r : Bool) (w : World) (h : probe_good.f a0 a1 = some r) :
  Calls Try.prog 44 #[.int .i64 a0, .int .i64 a1] w fun e w' => e = .returned (.bool r) ∧ Drawn0 w w' := by
 have H : (if a0 ≥ 1 then (if a0 ≤ 1500 then (if a1 ≥ 0 then (some (decide (a1 ≤ 1125899906842624))) else (some false)) else (some false)) else (some false)) = some r := h
 clear h
 by_cases c3 : a0 ≥ 1
 ·rw [if_pos c3] at H
  have c3b0 : decide (1 ≤ a0) = true := decide_eq_true c3
  clear c3
  by_cases c4 : a0 ≤ 1500
  ·rw [if_pos c4] at H
   have c4b0 : decide (a0 ≤ 1500) = true := decide_eq_true c4
   clear c4
   by_cases c5 : a1 ≥ 0
   ·rw [if_pos c5] at H
    have c5b0 : decide (0 ≤ a1) = true := decide_eq_true c5
    clear c5
    obtain rfl := Option.some.inj H
    go_enter Try.func44, Try.ntmps44
    go_wp2
    go_ret
    exact ⟨by first | rfl | (simp; done) | (simp [*]; done), by repeat (first | exact Drawn0.refl _ | apply Drawn0.step)⟩
   ·rw [if_neg c5] at H
    have c5b0 : decide (0 ≤ a1) = false := decide_eq_false c5
    clear c5
    obtain rfl := Option.some.inj H
    go_enter Try.func44, Try.ntmps44
    go_wp2
    go_ret
    exact ⟨by first | rfl | (simp; done) | (simp [*]; done), by repeat (first | exact Drawn0.refl _ | apply Drawn0.step)⟩
  ·rw [if_neg c4] at H
   have c4b0 : decide (a0 ≤ 1500) = false := decide_eq_false c4
   clear c4
   obtain rfl := Option.some.inj H
   go_enter Try.func44, Try.ntmps44
   go_wp2
   go_ret
   exact ⟨by first | rfl | (simp; done) | (simp [*]; done), by repeat (first | exact Drawn0.refl _ | apply Drawn0.step)⟩
 ·rw [if_neg c3] at H
  have c3b0 : decide (1 ≤ a0) = false := decide_eq_false c3
  clear c3
  obtain rfl := Option.some.inj H
  go_enter Try.func44, Try.ntmps44
  go_wp2
  go_ret
  exact ⟨by first | rfl | (simp; done) | (simp [*]; done), by repeat (first | exact Drawn0.refl _ | apply Drawn0.step)⟩
def units_Rate.f (a0 : Int) (a1 : Int) : Option (Int) := (muldiv_Do.f a0 8000000 a1 1).bind fun t118 => (some t118)
set_option maxHeartbeats 8000000 in
set_option maxRecDepth 100000 in
theorem units_Rate.calls (a0 : Int) (a1 : Int) (r : Int) (w : World) (h : units_Rate.f a0 a1 = some r) :
  Calls Try.prog 35 #[.int .i64 a0, .int .i64 a1] w fun e w' => e = .returned (.int .i64 r) ∧ Below w.heap.size w w' := by
 have HB := Aside0.mk (Below.refl w.heap.size w)
 have H : ((muldiv_Do.f a0 8000000 a1 1).bind fun t118 => (some t118)) = some r := h
 clear h
 replace H := Option.bind_eq_some_iff.mp H
 obtain ⟨t118, A30, H⟩ := H
 replace H : (some t118) = some r := H
 have A3 := Aside0.mk A30
 clear A30
 obtain rfl := Option.some.inj H
 go_enter Try.func35, Try.ntmps35
 go_wp2_with (first | ((with_reducible refine gate_callee (f := 50) rfl ?_); refine goesL_ (some 7) rfl rfl Try.func50 (by kernel_rfl) rfl #[.int .i64 a0, .int .i64 8000000, .int .i64 a1, .int .i64 1] rfl (by (try simp only [List.map_toArray, List.map_cons, List.map_nil]); first | done | rfl | (simp only [List.length_drop, List.length_take]; rfl)) ?_; (with_reducible refine (muldiv_Do.calls a0 8000000 a1 1 t118 _ A3.out).mono ?_); rintro e w4 ⟨rfl, hb⟩; refine ⟨_, rfl, ?_⟩; have n0_ := Aside0.mk (below_step (by repeat (first | (with_reducible first | exact HB.out | apply below_alloc | apply pw_below_drewN | apply below_drew1) | exact HB.out)) hb); clear HB; have HB := n0_; clear n0_; (try clear hb); (try clear hb2); (try clear hk); (try clear hi)))
 go_ret
 exact ⟨by first | rfl | (simp [errW_none, errW_some] <;> rfl) | (simp [*, errW_none, errW_some] <;> rfl), by repeat (first | (with_reducible first | exact HB.out | apply below_alloc | apply pw_below_drewN | apply below_drew1) | exact HB.out)⟩
end Go.Proofs.Ytlgfnclgkhfhpaa.P
end

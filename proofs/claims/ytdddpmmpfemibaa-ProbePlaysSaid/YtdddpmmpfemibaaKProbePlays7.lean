-- PUT TOGETHER by a program of this session: of the claim's texts, what is used
import Derived.Test.YtdddpmmpfemibaaKProbePlays0
import Derived.Test.YtdddpmmpfemibaaKProbePlays1
import Derived.Test.YtdddpmmpfemibaaKProbePlays2
import Derived.Test.YtdddpmmpfemibaaKProbePlays3
import Derived.Test.YtdddpmmpfemibaaKProbePlays4
import Derived.Test.YtdddpmmpfemibaaKProbePlays5
import Derived.Test.YtdddpmmpfemibaaKProbePlays6
import Derived.Test.YtdddpmmpfemibaaProg
import Derived.Below
import Derived.Deep.Draws
import Derived.Deep.AppendLies
import Derived.Maps.AppendAt
import Derived.OwnWalk
import Derived.Laws.BytesArg
import Derived.Laws.MakeOwn
import Derived.Laws.OwnMore
import Derived.Deep.OwnRows
import Derived.Tactics
import Derived.Lib.ConvBytes
import Derived.Laws.Slices
import Derived.WalkKit
import Derived.KernelRfl
import Derived.RowKit3
import Derived.Deep.LoopGhost
import Derived.Deep.QuietTactic
import Derived.BigQuiet
import Derived.WideLaws
import Derived.Deep.DeepCutAuto
import Derived.Deep.CutBlock
import Derived.Deep.RegionHeld3
import Derived.Laws.Rows
import Derived.Lib.AppendStr
import Derived.ArgAppend
import Derived.Laws.IdiomCopy
import Derived.OrdersHeld
import Derived.Laws.BitsLemmas
import Derived.RowKit
import Derived.Laws.Externs
import Derived.Lib.Mul64
section
namespace Go.Proofs.Ytdddpmmpfemibaa.P
open Go.RowKit Go.Proofs.YtdddpmmpfemibaaW.PrintWords Go.Proofs.YtdddpmmpfemibaaW.PrintLast Go.Proofs.YtdddpmmpfemibaaW.PrintMore
attribute [local go_sem] max2_int min2_int max_two min_two max_three min_three max_four min_four   -- for this text's walks alone
set_option linter.unusedVariables false
set_option linter.unusedSimpArgs false
def errW : Option Int → Value
 | none => .nilIface
 | some c => .iface 0 (.int .i64 c)
theorem errW_none : errW none = .nilIface := rfl
theorem errW_some (c : Int) : errW (some c) = .iface 0 (.int .i64 c) := rfl
structure S28 where
 f0 : Int
 f1 : Int
 f2 : Int
 f3 : Int
 f4 : Int
 f5 : Int
def z28 : S28 := ⟨(0 : Int), (0 : Int), (0 : Int), (0 : Int), (0 : Int), (0 : Int)⟩
def k28 : Kd S28 := Kd.iso (Kd.pair (Kd.int .i64) (Kd.pair (Kd.int .i64) (Kd.pair (Kd.int .i64) (Kd.pair (Kd.int .i64) (Kd.pair (Kd.int .i64) (Kd.int .i64)))))) (fun x : S28 => (x.f0, x.f1, x.f2, x.f3, x.f4, x.f5))
theorem k28_open {w : World} {x : S28} {cs : List Value} (h : k28.K w x cs) : cs = [.int .i64 x.f0, .int .i64 x.f1, .int .i64 x.f2, .int .i64 x.f3, .int .i64 x.f4, .int .i64 x.f5] := by
 obtain ⟨_, _, rfl, rfl, ⟨_, _, rfl, rfl, ⟨_, _, rfl, rfl, ⟨_, _, rfl, rfl, ⟨_, _, rfl, rfl, rfl⟩⟩⟩⟩⟩ := h
 exact rfl
theorem k28_mk (w : World) (x : S28)  : k28.K w x [.int .i64 x.f0, .int .i64 x.f1, .int .i64 x.f2, .int .i64 x.f3, .int .i64 x.f4, .int .i64 x.f5] := ⟨[.int .i64 x.f0], [.int .i64 x.f1, .int .i64 x.f2, .int .i64 x.f3, .int .i64 x.f4, .int .i64 x.f5], rfl, rfl, ⟨[.int .i64 x.f1], [.int .i64 x.f2, .int .i64 x.f3, .int .i64 x.f4, .int .i64 x.f5], rfl, rfl, ⟨[.int .i64 x.f2], [.int .i64 x.f3, .int .i64 x.f4, .int .i64 x.f5], rfl, rfl, ⟨[.int .i64 x.f3], [.int .i64 x.f4, .int .i64 x.f5], rfl, rfl, ⟨[.int .i64 x.f4], [.int .i64 x.f5], rfl, rfl, rfl⟩⟩⟩⟩⟩
def rd_T28 (xs : List S28) (i : Int) : S28 := xs.getD i.toNat z28
theorem at_T28 {w : World} {A : Option Addr} {n : Nat} {xs : List S28} (h : Kd.C k28 w A n xs) (i : Int) (h0 : 0 ≤ i) (h1 : i < n) : ∃ ad , A = some ad ∧ w.cell? (ad.add (i.toNat * 6)) = some (.int .i64 (rd_T28 xs i).f0) ∧ w.cell? ⟨(ad.add (i.toNat * 6)).block, (ad.add (i.toNat * 6)).off + 1, none⟩ = some (.int .i64 (rd_T28 xs i).f1) ∧ w.cell? ⟨(ad.add (i.toNat * 6)).block, (ad.add (i.toNat * 6)).off + 2, none⟩ = some (.int .i64 (rd_T28 xs i).f2) ∧ w.cell? ⟨(ad.add (i.toNat * 6)).block, (ad.add (i.toNat * 6)).off + 3, none⟩ = some (.int .i64 (rd_T28 xs i).f3) ∧ w.cell? ⟨(ad.add (i.toNat * 6)).block, (ad.add (i.toNat * 6)).off + 4, none⟩ = some (.int .i64 (rd_T28 xs i).f4) ∧ w.cell? ⟨(ad.add (i.toNat * 6)).block, (ad.add (i.toNat * 6)).off + 5, none⟩ = some (.int .i64 (rd_T28 xs i).f5) := by
 obtain ⟨ad, c, e, _, hK, hc0⟩ := Kd.C_get h z28 i h0 h1
 have hc : ∀ j u, c[j]? = some u → w.cell? (ad.add (i.toNat * 6 + j)) = some u := hc0
 obtain rfl := k28_open hK
 exact ⟨ad, e, hc 0 _ rfl, by rw [← add_field _ _ 1 (by omega)]; exact hc 1 _ rfl, by rw [← add_field _ _ 2 (by omega)]; exact hc 2 _ rfl, by rw [← add_field _ _ 3 (by omega)]; exact hc 3 _ rfl, by rw [← add_field _ _ 4 (by omega)]; exact hc 4 _ rfl, by rw [← add_field _ _ 5 (by omega)]; exact hc 5 _ rfl⟩
end Go.Proofs.Ytdddpmmpfemibaa.P
end

section
namespace Go.Proofs.Ytdddpmmpfemibaa.P
open Go.RowKit Go.Proofs.YtdddpmmpfemibaaW.PrintWords Go.Proofs.YtdddpmmpfemibaaW.PrintLast Go.Proofs.YtdddpmmpfemibaaW.PrintMore
attribute [local go_sem] max2_int min2_int max_two min_two max_three min_three max_four min_four   -- for this text's walks alone
set_option linter.unusedVariables false
set_option linter.unusedSimpArgs false
structure Clu where
 c0 : Int
 c1 : Int
 c2 : Int
 c3 : Int
 c4 : Int
 c5 : Int
 c6 : Int
 c7 : Int
 c8 : Int
 c9 : Int
 c10 : Int
def cluC (x : Clu) : Array Value := #[.int .i64 x.c0, .int .i64 x.c1, .int .i64 x.c2, .int .i64 x.c3, .int .i64 x.c4, .int .i64 x.c5, .int .i64 x.c6, .int .i64 x.c7, .int .i64 x.c8, .int .i64 x.c9, .int .i64 x.c10]
structure PbS where
 n : Int
 o : Int
 b : Int
 l : List (Int × Clu)
def lk : List (Int × Clu) → Int → Option Clu
 | [], _ => none
 | q :: r, k => if q.1 = k then some q.2 else lk r k
def up : List (Int × Clu) → Int → Clu → List (Int × Clu)
 | [], _, _ => []
 | q :: r, k, x => if q.1 = k then (k, x) :: r else q :: up r k x
def rm : List (Int × Clu) → Int → List (Int × Clu)
 | [], _ => []
 | q :: r, k => if q.1 = k then r else q :: rm r k
def KeepT (w w' : World) : Prop := w.heap.size ≤ w'.heap.size ∧ ∀ (i : Nat) (cs : Array Value) (t : TypeId) (fr : Nat × Nat), w.heap[i]? = some (.cells cs t fr) → t ≠ 42 → t ≠ 49 → w'.heap[i]? = some (.cells cs t fr)
theorem KeepT.refl (w : World) : KeepT w w := ⟨Nat.le_refl _, fun _ _ _ _ h _ _ => h⟩
theorem KeepT.below {w W W1 : World} (h : KeepT w W) (hb : Below W.heap.size W W1) : KeepT w W1 := ⟨Nat.le_trans h.1 hb.size, fun i cs t fr hi h1 h2 => blk_below (h.2 i cs t fr hi h1 h2) hb⟩
theorem KeepT.set {w W : World} {g j t0 : Nat} {cs0 : Array Value} {u : Value} (h : KeepT w W) (hg : W.heap[g]? = some (.cells cs0 t0 (0, 0))) (h0 : t0 = 42 ∨ t0 = 49) : KeepT w (W.setCell ⟨g, j, none⟩ u) :=
 ⟨by simpa [World.setCell] using h.1, fun i cs t fr hi h1 h2 => by
  have hh := h.2 i cs t fr hi h1 h2
  rw [Below.heap_setCell W ⟨g, j, none⟩ u i (fun e => by
   have e' : i = g := e
   subst e'
   rw [hg] at hh
   injection hh with hh
   injection hh with _ hh
   subst hh
   rcases h0 with h0 | h0
   ·exact h1 h0
   ·exact h2 h0)]
  exact hh⟩
def MapAt (W : World) (m : Nat) (K : List (Int × Nat)) : Prop := ∃ es cl, W.heap[m]? = some (.map es cl) ∧ es.toList.map (fun e => (e.key, e.val)) = K.map (fun q => (Value.int .i64 q.1, Value.pointer (some ⟨q.2, 0, none⟩)))
structure PS (w0 W : World) (g m : Nat) (f0 f1 f2 : Int) (K : List (Int × Nat)) (R : List (Nat × Array Value)) : Prop where
 blk : W.heap[g]? = some (.cells #[.map (some m), .int .i64 f0, .int .i64 f1, .int .i64 f2] 42 (0, 0))
 ge : w0.heap.size ≤ g
 mp : MapAt W m K
 mge : w0.heap.size ≤ m
 oth : ∀ q ∈ R, W.heap[q.1]? = some (.cells q.2 49 (0, 0)) ∧ w0.heap.size ≤ q.1
 nd : (R.map Prod.fst).Nodup
section
variable {w0 w1 W W1 : World} {g m c : Nat} {f0 f1 f2 : Int} {K : List (Int × Nat)} {R R1 R2 : List (Nat × Array Value)} {cs : Array Value}
theorem map_not_cells {es : Array MapEntry} {cl : Nat} {t : TypeId} {fr : Nat × Nat} {b : Nat} (h : W.heap[m]? = some (.map es cl)) (h' : W.heap[b]? = some (.cells cs t fr)) : m ≠ b := by
 rintro rfl
 rw [h] at h'
 injection h' with h'
 cases h'
theorem MapAt.same (h : MapAt W m K) (hk : ∀ es cl, W.heap[m]? = some (.map es cl) → W1.heap[m]? = some (.map es cl)) : MapAt W1 m K := by
 obtain ⟨es, cl, h1, h2⟩ := h
 exact ⟨es, cl, hk _ _ h1, h2⟩
theorem PS.below (h : PS w0 W g m f0 f1 f2 K R) (hb : Below W.heap.size W W1) : PS w0 W1 g m f0 f1 f2 K R :=
 ⟨blk_below h.blk hb, h.ge, h.mp.same (fun _ _ e => blk_below e hb), h.mge, fun q hq => ⟨blk_below (h.oth q hq).1 hb, (h.oth q hq).2⟩, h.nd⟩
theorem PS.rebase (h : PS w1 W g m f0 f1 f2 K R) (hl : w0.heap.size ≤ w1.heap.size) : PS w0 W g m f0 f1 f2 K R :=
 ⟨h.blk, Nat.le_trans hl h.ge, h.mp, Nat.le_trans hl h.mge, fun q hq => ⟨(h.oth q hq).1, Nat.le_trans hl (h.oth q hq).2⟩, h.nd⟩
theorem PS.ne_gm (h : PS w0 W g m f0 f1 f2 K R) : m ≠ g := by
 obtain ⟨es, cl, h1, _⟩ := h.mp
 exact map_not_cells h1 h.blk
theorem PS.ne_gq (h : PS w0 W g m f0 f1 f2 K R) (q : Nat × Array Value) (hq : q ∈ R) : q.1 ≠ g := by
 intro e
 have h1 := (h.oth q hq).1
 rw [e, h.blk] at h1
 injection h1 with h1
 injection h1 with _ h1
 exact absurd h1 (by decide)
theorem PS.ne_mq (h : PS w0 W g m f0 f1 f2 K R) (q : Nat × Array Value) (hq : q ∈ R) : m ≠ q.1 := by
 obtain ⟨es, cl, h1, _⟩ := h.mp
 exact map_not_cells h1 (h.oth q hq).1
theorem mid_mem : (c, cs) ∈ R1 ++ (c, cs) :: R2 := by simp
theorem PS.cb (h : PS w0 W g m f0 f1 f2 K (R1 ++ (c, cs) :: R2)) : W.heap[c]? = some (.cells cs 49 (0, 0)) := (h.oth (c, cs) mid_mem).1
theorem PS.cge (h : PS w0 W g m f0 f1 f2 K (R1 ++ (c, cs) :: R2)) : w0.heap.size ≤ c := (h.oth (c, cs) mid_mem).2
theorem PS.other (h : PS w0 W g m f0 f1 f2 K (R1 ++ (c, cs) :: R2)) (q : Nat × Array Value) (hq : q ∈ R1 ∨ q ∈ R2) : q.1 ≠ c := by
 have hn := h.nd
 simp only [List.map_append, List.map_cons] at hn
 rw [List.nodup_append] at hn
 obtain ⟨_, n2, n3⟩ := hn
 rw [List.nodup_cons] at n2
 rcases hq with hq | hq
 ·exact n3 q.1 (List.mem_map_of_mem hq) c (by simp)
 ·intro e
  exact n2.1 (e ▸ List.mem_map_of_mem hq)
theorem PS.setc (h : PS w0 W g m f0 f1 f2 K (R1 ++ (c, cs) :: R2)) (i : Nat) (u : Value) : PS w0 (W.setCell ⟨c, i, none⟩ u) g m f0 f1 f2 K (R1 ++ (c, cs.setIfInBounds i u) :: R2) := by
 have hg := h.ne_gq _ mid_mem
 have hm := h.ne_mq _ mid_mem
 refine ⟨blk_far h.blk (p := ⟨c, i, none⟩) (Ne.symm hg) u, h.ge, h.mp.same (fun _ _ e => (Below.heap_setCell W ⟨c, i, none⟩ u m hm).trans e), h.mge, fun q hq => ?_, by simpa using h.nd⟩
 rcases List.mem_append.1 hq with hq | hq
 ·exact ⟨blk_far (h.oth q (by simp [hq])).1 (p := ⟨c, i, none⟩) (h.other q (.inl hq)) u, (h.oth q (by simp [hq])).2⟩
 ·rcases List.mem_cons.1 hq with rfl | hq
  ·exact ⟨blk_set h.cb i u, h.cge⟩
  ·exact ⟨blk_far (h.oth q (by simp [hq])).1 (p := ⟨c, i, none⟩) (h.other q (.inr hq)) u, (h.oth q (by simp [hq])).2⟩
theorem PS.setg (h : PS w0 W g m f0 f1 f2 K R) {f0' f1' f2' : Int} (i : Nat) (u : Value) (e : (#[.map (some m), .int .i64 f0, .int .i64 f1, .int .i64 f2] : Array Value).setIfInBounds i u = #[.map (some m), .int .i64 f0', .int .i64 f1', .int .i64 f2']) : PS w0 (W.setCell ⟨g, i, none⟩ u) g m f0' f1' f2' K R :=
 ⟨blk_put h.blk i u e, h.ge, h.mp.same (fun _ _ e => (Below.heap_setCell W ⟨g, i, none⟩ u m h.ne_gm).trans e), h.mge, fun q hq => ⟨blk_far (h.oth q hq).1 (p := ⟨g, i, none⟩) (h.ne_gq q hq) u, (h.oth q hq).2⟩, h.nd⟩
def PF (w0 w W : World) (g m : Nat) (f0 f1 f2 : Int) (K : List (Int × Nat)) (R : List (Nat × Array Value)) : Prop := PS w0 W g m f0 f1 f2 K R ∧ Below w0.heap.size w0 W ∧ KeepT w W
theorem PF.below {w : World} (h : PF w0 w W g m f0 f1 f2 K R) (hb : Below W.heap.size W W1) : PF w0 w W1 g m f0 f1 f2 K R := ⟨h.1.below hb, below_step h.2.1 hb, h.2.2.below hb⟩
theorem PF.drew {w : World} (h : PF w0 w W g m f0 f1 f2 K R) : PF w0 w W.drew g m f0 f1 f2 K R := h.below (below_drew (Below.refl _ _))
theorem PF.setc {w : World} (h : PF w0 w W g m f0 f1 f2 K (R1 ++ (c, cs) :: R2)) (i : Nat) (u : Value) : PF w0 w (W.setCell ⟨c, i, none⟩ u) g m f0 f1 f2 K (R1 ++ (c, cs.setIfInBounds i u) :: R2) :=
 ⟨h.1.setc i u, below_set h.2.1 h.1.cge, h.2.2.set h.1.cb (.inr rfl)⟩
theorem PF.setg {w : World} (h : PF w0 w W g m f0 f1 f2 K R) {f0' f1' f2' : Int} (i : Nat) (u : Value) (e : (#[.map (some m), .int .i64 f0, .int .i64 f1, .int .i64 f2] : Array Value).setIfInBounds i u = #[.map (some m), .int .i64 f0', .int .i64 f1', .int .i64 f2']) : PF w0 w (W.setCell ⟨g, i, none⟩ u) g m f0' f1' f2' K R :=
 ⟨h.1.setg i u e, below_set h.2.1 h.1.ge, h.2.2.set h.1.blk (.inl rfl)⟩
end
def keysOf (L : List (Int × Nat × Clu)) : List (Int × Nat) := L.map (fun q => (q.1, q.2.1))
def rowsOf (L : List (Int × Nat × Clu)) : List (Nat × Array Value) := L.map (fun q => (q.2.1, cluC q.2.2))
def valsOf (L : List (Int × Nat × Clu)) : List (Int × Clu) := L.map (fun q => (q.1, q.2.2))
def IsS42 (w0 W : World) (g : Nat) (s : PbS) : Prop := ∃ m L, PS w0 W g m s.n s.o s.b (keysOf L) (rowsOf L) ∧ s.l = valsOf L
theorem IsS42.below {w0 W W1 : World} {g : Nat} {s : PbS} (h : IsS42 w0 W g s) (hb : Below W.heap.size W W1) : IsS42 w0 W1 g s := by
 obtain ⟨m, L, h, e⟩ := h
 exact ⟨m, L, h.below hb, e⟩
theorem IsS42.rebase {w0 w1 W : World} {g : Nat} {s : PbS} (h : IsS42 w1 W g s) (hl : w0.heap.size ≤ w1.heap.size) : IsS42 w0 W g s := by
 obtain ⟨m, L, h, e⟩ := h
 exact ⟨m, L, h.rebase hl, e⟩
theorem IsS42.blk {w0 W : World} {g : Nat} {s : PbS} (h : IsS42 w0 W g s) : ∃ cs, W.heap[g]? = some (.cells cs 42 (0, 0)) := by
 obtain ⟨m, L, h, e⟩ := h
 exact ⟨_, h.blk⟩
theorem IsS42.ge {w0 W : World} {g : Nat} {s : PbS} (h : IsS42 w0 W g s) : w0.heap.size ≤ g := by
 obtain ⟨m, L, h, e⟩ := h
 exact h.ge
theorem IsS42.lt {w0 W : World} {g : Nat} {s : PbS} (h : IsS42 w0 W g s) : g < W.heap.size := by
 obtain ⟨cs, h⟩ := h.blk
 exact blk_lt h
theorem IsS42.alloc {w0 W : World} {g : Nat} {s : PbS} (h : IsS42 w0 W g s) (o : Obj) : IsS42 w0 (W.alloc o) g s := h.below (below_alloc (Below.refl _ _) o)
theorem IsS42.drewN {w0 W : World} {g : Nat} {s : PbS} (h : IsS42 w0 W g s) (n : Nat) : IsS42 w0 (W.drewN n) g s := h.below (pw_below_drewN (Below.refl _ _) n)
theorem IsS42.drew {w0 W : World} {g : Nat} {s : PbS} (h : IsS42 w0 W g s) : IsS42 w0 W.drew g s := h.below (below_drew (Below.refl _ _))
theorem lk_split : ∀ {L : List (Int × Nat × Clu)} {k : Int} {x : Clu}, lk (valsOf L) k = some x → ∃ L1 c L2, L = L1 ++ (k, c, x) :: L2 ∧ (∀ q ∈ L1, q.1 ≠ k)
 | [], k, x, h => by simp [valsOf, lk] at h
 | q :: L, k, x, h => by
  simp only [valsOf, List.map_cons, lk] at h
  by_cases hk : q.1 = k
  ·rw [if_pos hk] at h
   obtain ⟨a, b, y⟩ := q
   simp only at hk h
   injection h with h
   subst hk h
   exact ⟨[], b, L, rfl, by simp⟩
  ·rw [if_neg hk] at h
   obtain ⟨L1, c, L2, e, hn⟩ := lk_split (L := L) h
   refine ⟨q :: L1, c, L2, by rw [e]; rfl, fun z hz => ?_⟩
   rcases List.mem_cons.1 hz with rfl | hz
   ·exact hk
   ·exact hn z hz
theorem lk_none : ∀ {L : List (Int × Nat × Clu)} {k : Int}, lk (valsOf L) k = none → ∀ q ∈ keysOf L, q.1 ≠ k
 | [], k, h => by simp [keysOf]
 | q :: L, k, h => by
  simp only [valsOf, List.map_cons, lk] at h
  by_cases hk : q.1 = k
  ·rw [if_pos hk] at h; cases h
  ·rw [if_neg hk] at h
   intro z hz
   simp only [keysOf, List.map_cons, List.mem_cons] at hz
   rcases hz with rfl | hz
   ·exact hk
   ·exact lk_none (L := L) h z hz
theorem up_split : ∀ {L1 L2 : List (Int × Nat × Clu)} {k : Int} {c : Nat} {x y : Clu}, (∀ q ∈ L1, q.1 ≠ k) → up (valsOf (L1 ++ (k, c, x) :: L2)) k y = valsOf (L1 ++ (k, c, y) :: L2)
 | [], L2, k, c, x, y, _ => by simp [valsOf, up]
 | q :: L1, L2, k, c, x, y, h => by
  have h1 := up_split (L1 := L1) (L2 := L2) (k := k) (c := c) (x := x) (y := y) (fun z hz => h z (by simp [hz]))
  simp only [valsOf] at h1 ⊢
  simp only [List.cons_append, List.map_cons, up]
  rw [if_neg (h q (by simp)), h1]
theorem rows_mid {L1 L2 : List (Int × Nat × Clu)} {k : Int} {c : Nat} {x : Clu} : rowsOf (L1 ++ (k, c, x) :: L2) = rowsOf L1 ++ (c, cluC x) :: rowsOf L2 := by simp [rowsOf]
theorem keys_mid {L1 L2 : List (Int × Nat × Clu)} {k : Int} {c : Nat} {x y : Clu} : keysOf (L1 ++ (k, c, x) :: L2) = keysOf (L1 ++ (k, c, y) :: L2) := by simp [keysOf]
theorem PS.back {w0 W : World} {g m c : Nat} {f0 f1 f2 k : Int} {L1 L2 : List (Int × Nat × Clu)} {x y : Clu} {cs : Array Value} (h : PS w0 W g m f0 f1 f2 (keysOf (L1 ++ (k, c, x) :: L2)) (rowsOf L1 ++ (c, cs) :: rowsOf L2)) (hn : ∀ q ∈ L1, q.1 ≠ k) (hc : cs = cluC y) :
  IsS42 w0 W g ⟨f0, f1, f2, up (valsOf (L1 ++ (k, c, x) :: L2)) k y⟩ := by
 subst hc
 refine ⟨m, L1 ++ (k, c, y) :: L2, ?_, up_split hn⟩
 rw [rows_mid, keys_mid (y := x)]
 exact h
theorem find_in (k : Int) (b : Nat) : ∀ (es : List MapEntry) (K : List (Int × Nat)) (i : Nat), es.map (fun e => (e.key, e.val)) = K.map (fun q => (Value.int .i64 q.1, Value.pointer (some ⟨q.2, 0, none⟩))) → K.find? (fun p => k == p.1) = some (k, b) →
  ∃ j, Instr.findNow (.int .i64) (.int .i64 k) es i = some (some (j, Value.pointer (some ⟨b, 0, none⟩)))
 | [], [], _, _, h => by simp at h
 | [], _ :: _, _, h, _ => by simp at h
 | e :: es, [], _, h, _ => by simp at h
 | e :: es, p :: l, i, h, hf => by
  simp only [List.map_cons, List.cons.injEq, Prod.mk.injEq] at h
  simp only [List.find?_cons] at hf
  simp only [Instr.findNow, h.1.1, Instr.sameNow, if_true]
  cases hk : k == p.1 with
  | true =>
   rw [hk] at hf
   simp only [Option.some.injEq] at hf
   exact ⟨i, by simp [h.1.2, hf]⟩
  | false =>
   rw [hk] at hf
   exact find_in k b es l (i + 1) h.2 hf
theorem find_out (k : Int) : ∀ (es : List MapEntry) (K : List (Int × Nat)) (i : Nat), es.map (fun e => (e.key, e.val)) = K.map (fun q => (Value.int .i64 q.1, Value.pointer (some ⟨q.2, 0, none⟩))) → (∀ p ∈ K, p.1 ≠ k) →
  Instr.findNow (.int .i64) (.int .i64 k) es i = some none
 | [], _, _, _, _ => rfl
 | e :: es, [], _, h, _ => by simp at h
 | e :: es, p :: l, i, h, hn => by
  simp only [List.map_cons, List.cons.injEq, Prod.mk.injEq] at h
  have hk : (k == p.1) = false := by simpa using fun e => hn p (by simp) e.symm
  simp only [Instr.findNow, h.1.1, Instr.sameNow, if_true, hk]
  exact find_out k es l (i + 1) h.2 (fun q hq => hn q (by simp [hq]))
def rmK : List (Int × Nat) → Int → List (Int × Nat)
 | [], _ => []
 | q :: r, k => if q.1 = k then r else q :: rmK r k
theorem keys_find : ∀ {L1 L2 : List (Int × Nat × Clu)} {k : Int} {c : Nat} {x : Clu}, (∀ q ∈ L1, q.1 ≠ k) → (keysOf (L1 ++ (k, c, x) :: L2)).find? (fun p => k == p.1) = some (k, c)
 | [], L2, k, c, x, _ => by simp [keysOf]
 | q :: L1, L2, k, c, x, h => by
  have h1 := keys_find (L1 := L1) (L2 := L2) (k := k) (c := c) (x := x) (fun z hz => h z (by simp [hz]))
  have hk : (k == q.1) = false := by simpa using fun e => h q (by simp) e.symm
  simp only [keysOf, List.cons_append, List.map_cons, List.find?_cons, hk] at h1 ⊢
  exact h1
theorem keys_rm : ∀ (L : List (Int × Nat × Clu)) (k : Int), ∃ L', rmK (keysOf L) k = keysOf L' ∧ rm (valsOf L) k = valsOf L' ∧ (rowsOf L').Sublist (rowsOf L)
 | [], k => ⟨[], rfl, rfl, List.Sublist.refl _⟩
 | q :: L, k => by
  by_cases hk : q.1 = k
  ·exact ⟨L, by simp [keysOf, rmK, hk], by simp [valsOf, rm, hk], by simp [rowsOf]⟩
  ·obtain ⟨L', h1, h2, h3⟩ := keys_rm L k
   refine ⟨q :: L', ?_, ?_, ?_⟩
   ·simp only [keysOf, List.map_cons, rmK] at h1 ⊢
    rw [if_neg hk, h1]
   ·simp only [valsOf, List.map_cons, rm] at h2 ⊢
    rw [if_neg hk, h2]
   ·simp only [rowsOf, List.map_cons] at h3 ⊢
    exact h3.cons_cons _
theorem find_del (k : Int) : ∀ (es : List MapEntry) (K : List (Int × Nat)) (i : Nat), es.map (fun e => (e.key, e.val)) = K.map (fun q => (Value.int .i64 q.1, Value.pointer (some ⟨q.2, 0, none⟩))) →
  (Instr.findNow (.int .i64) (.int .i64 k) es i = some none ∧ rmK K k = K) ∨ ∃ j v, Instr.findNow (.int .i64) (.int .i64 k) es i = some (some (i + j, v)) ∧ j < es.length ∧ (es.eraseIdx j).map (fun e => (e.key, e.val)) = (rmK K k).map (fun q => (Value.int .i64 q.1, Value.pointer (some ⟨q.2, 0, none⟩)))
 | [], [], _, _ => .inl ⟨rfl, rfl⟩
 | [], _ :: _, _, h => by simp at h
 | e :: es, [], _, h => by simp at h
 | e :: es, p :: l, i, h => by
  simp only [List.map_cons, List.cons.injEq, Prod.mk.injEq] at h
  simp only [Instr.findNow, h.1.1, Instr.sameNow, if_true, rmK]
  by_cases hk : p.1 = k
  ·have hk' : (k == p.1) = true := by simp [hk]
   rw [hk', if_pos hk]
   exact .inr ⟨0, e.val, by simp, by simp, by simpa using h.2⟩
  ·have hk' : (k == p.1) = false := by simpa using fun e => hk e.symm
   rw [hk', if_neg hk]
   rcases find_del k es l (i + 1) h.2 with ⟨h1, h2⟩ | ⟨j, v, h1, h2, h3⟩
   ·exact .inl ⟨h1, by rw [h2]⟩
   ·exact .inr ⟨j + 1, v, by rw [show i + (j + 1) = i + 1 + j by omega]; exact h1, by simp; omega, by simp [h.1.1, h.1.2, h3]⟩
section
open Go.MapKept Go.ChangeMaps
variable {P : Program} {w0 w W W1 : World} {g m c : Nat} {f0 f1 f2 : Int} {K : List (Int × Nat)} {R : List (Nat × Array Value)} {cs : Array Value} {k : Int}
theorem look_in (hu : P.underlying 40 = some (.map 3 47)) (hk : P.underlying 3 = some (.int .i64)) (h : MapAt W m K) (hf : K.find? (fun p => k == p.1) = some (k, c)) (ok : Bool) :
  (Instr.lookup 40 (.map (some m)) (.int .i64 k) ok).run P W = .ok (if ok then .tuple #[.pointer (some ⟨c, 0, none⟩), .bool true] else .pointer (some ⟨c, 0, none⟩)) W := by
 obtain ⟨es, cl, hh, hl⟩ := h
 obtain ⟨j, hj⟩ := find_in k c _ K 0 hl hf
 simp [Instr.lookup, run_underlying hu, MapKept.run_getObj_map hh, run_checkKey hk (show IsKey (.int .i64) (.int .i64 k) from by simp [IsKey]), run_findKey hk hj, Result.andThen]
theorem look_out (hu : P.underlying 40 = some (.map 3 47)) (hk : P.underlying 3 = some (.int .i64)) (hz : ∀ W_, (zeroValue 47).run P W_ = .ok (.pointer none) W_) (h : MapAt W m K) (hn : ∀ p ∈ K, p.1 ≠ k) :
  (Instr.lookup 40 (.map (some m)) (.int .i64 k) true).run P W = .ok (.tuple #[.pointer none, .bool false]) W := by
 obtain ⟨es, cl, hh, hl⟩ := h
 simp [Instr.lookup, run_underlying hu, MapKept.run_getObj_map hh, run_checkKey hk (show IsKey (.int .i64) (.int .i64 k) from by simp [IsKey]), run_findKey hk (find_out k _ K 0 hl hn), Result.andThen, hz]
structure Anew (W W1 : World) (m : Nat) : Prop where
 sz : W1.heap.size = W.heap.size
 oth : ∀ i, i ≠ m → W1.heap[i]? = W.heap[i]?
 bel : ∀ {w0 : World}, Below w0.heap.size w0 W → w0.heap.size ≤ m → Below w0.heap.size w0 W1
theorem anew_set {o o' : Obj} (hm : W.heap[m]? = some o) : Anew W (setBlock W m o') m :=
 ⟨by simp [setBlock], (heap_set hm).2, fun hb h0 => ⟨hb.os, hb.tape, hb.output, (show (setBlock W m o').heap.size = W.heap.size by simp [setBlock]) ▸ hb.size, fun j hj => ((heap_set hm).2 j (by omega)).trans (hb.block j hj)⟩⟩
theorem put_new (hu : P.underlying 40 = some (.map 3 47)) (hk : P.underlying 3 = some (.int .i64)) (h : MapAt W m K) (hn : ∀ p ∈ K, p.1 ≠ k) :
  ∃ w1, (Instr.mapUpdate 40 (.map (some m)) (.int .i64 k) (.pointer (some ⟨c, 0, none⟩))).run P W = .ok () w1 ∧ Anew W w1 m ∧ MapAt w1 m (K ++ [(k, c)]) := by
 obtain ⟨es, cl, hh, hl⟩ := h
 refine ⟨setBlock W m (.map (es.push { key := .int .i64 k, val := .pointer (some ⟨c, 0, none⟩), born := cl }) (cl + 1)), ?_, anew_set hh, _, _, (heap_set hh).1, by simp [hl]⟩
 simp [Instr.mapUpdate, run_underlying hu, MapKept.run_getObj_map hh, run_checkKey hk (show IsKey (.int .i64) (.int .i64 k) from by simp [IsKey]), run_findKey hk (find_out k _ K 0 hl hn), MapKept.run_setObj_map _ hh, Result.andThen, setBlock]
theorem del_key (hu : P.underlying 40 = some (.map 3 47)) (hk : P.underlying 3 = some (.int .i64)) (h : MapAt W m K) (k : Int) (ty : TypeId) :
  ∃ w1, (Builtin.delete_ #[40, 3] ty #[.map (some m), .int .i64 k]).run P W = .ok (.tuple #[]) w1 ∧ Anew W w1 m ∧ MapAt w1 m (rmK K k) := by
 obtain ⟨es, cl, hh, hl⟩ := h
 rcases find_del k _ K 0 hl with ⟨h1, h2⟩ | ⟨j, v, h1, h2, h3⟩
 ·refine ⟨setBlock W m (.map es cl), ?_, anew_set hh, es, cl, (heap_set hh).1, by rw [h2]; exact hl⟩
  simp [Builtin.delete_, run_underlying hu, MapKept.run_getObj_map hh, run_checkKey hk (show IsKey (.int .i64) (.int .i64 k) from by simp [IsKey]), run_findKey hk h1, MapKept.run_setObj_map _ hh, Result.andThen, setBlock]
 ·rw [Nat.zero_add] at h1
  refine ⟨setBlock W m (.map (es.eraseIdxIfInBounds j) cl), ?_, anew_set hh, _, cl, (heap_set hh).1, ?_⟩
  ·simp [Builtin.delete_, run_underlying hu, MapKept.run_getObj_map hh, run_checkKey hk (show IsKey (.int .i64) (.int .i64 k) from by simp [IsKey]), run_findKey hk h1, MapKept.run_setObj_map _ hh, Result.andThen, setBlock]
  ·rw [← h3, Array.eraseIdxIfInBounds, dif_pos (by simpa using h2)]
   simp
theorem PS.anew {K' : List (Int × Nat)} (h : PS w0 W g m f0 f1 f2 K R) (ha : Anew W W1 m) (hm : MapAt W1 m K') : PS w0 W1 g m f0 f1 f2 K' R :=
 ⟨(ha.oth g (Ne.symm h.ne_gm)).trans h.blk, h.ge, hm, h.mge, fun q hq => ⟨(ha.oth q.1 (Ne.symm (h.ne_mq q hq))).trans (h.oth q hq).1, (h.oth q hq).2⟩, h.nd⟩
theorem PF.anew {K' : List (Int × Nat)} (h : PF w0 w W g m f0 f1 f2 K R) (ha : Anew W W1 m) (hm : MapAt W1 m K') : PF w0 w W1 g m f0 f1 f2 K' R := by
 obtain ⟨h1, h2, h3⟩ := h
 refine ⟨h1.anew ha hm, ha.bel h2 h1.mge, by rw [ha.sz]; exact h3.1, fun i cs' t fr hi q1 q2 => ?_⟩
 have hh := h3.2 i cs' t fr hi q1 q2
 obtain ⟨es, cl, hme, _⟩ := h1.mp
 exact (ha.oth i (Ne.symm (map_not_cells hme hh))).trans hh
theorem PS.more (h : PS w0 W g m f0 f1 f2 K R) (hc : W.heap[c]? = some (.cells cs 49 (0, 0))) (h0 : w0.heap.size ≤ c) (hn : ∀ q ∈ R, q.1 ≠ c) : PS w0 W g m f0 f1 f2 K (R ++ [(c, cs)]) := by
 refine ⟨h.blk, h.ge, h.mp, h.mge, fun q hq => ?_, ?_⟩
 ·rcases List.mem_append.1 hq with hq | hq
  ·exact h.oth q hq
  ·simp only [List.mem_singleton] at hq
   subst hq
   exact ⟨hc, h0⟩
 ·rw [List.map_append, List.nodup_append]
  refine ⟨h.nd, by simp, fun a ha b hb => ?_⟩
  obtain ⟨q, hq, rfl⟩ := List.mem_map.1 ha
  simp only [List.map_cons, List.map_nil, List.mem_singleton] at hb
  subst hb
  exact hn q hq
theorem PS.less {R' : List (Nat × Array Value)} (h : PS w0 W g m f0 f1 f2 K R) (hs : R'.Sublist R) : PS w0 W g m f0 f1 f2 K R' :=
 ⟨h.blk, h.ge, h.mp, h.mge, fun q hq => h.oth q (hs.subset hq), (hs.map Prod.fst).nodup h.nd⟩
end
def probe_New.f : Option PbS := some ⟨0, 0, 0, []⟩
set_option maxHeartbeats 16000000 in
set_option maxRecDepth 100000 in
theorem probe_New.calls (r1 : PbS) (w0 w : World) (hB : Below w0.heap.size w0 w) (h : probe_New.f = some r1) :
  Calls Try.prog 4 #[] w fun e w' => ∃ g_ : Nat, e = .returned (.pointer (some ⟨g_, 0, none⟩)) ∧ IsS42 w0 w' g_ r1 ∧ Below w0.heap.size w0 w' ∧ Below w.heap.size w w' := by
 have hu42 := Try.underlying42
 simp only [probe_New.f, Option.some.injEq] at h
 subst h
 go_enter Try.func4, Try.ntmps4
 have hmk : ∀ W_ : World, (Instr.makeMap 40 none).run Try.prog W_ = .ok (.map (some W_.heap.size)) (W_.alloc (.map #[] 0)) := fun W_ => by rfl
 have hm1 := heap_alloc_new w (.map #[] 0)
 have hb1 := below_alloc hB (.map #[] 0)
 have hb2 := below_alloc (Below.refl w.heap.size w) (.map #[] 0)
 have hs1 := hB.size
 go_wp2
 have hz : (w.alloc (.map #[] 0)).heap.size = w.heap.size + 1 := by rw [World.size_alloc]
 have hN := blk_new (w.alloc (.map #[] 0)) (.cells #[.map (some w.heap.size), .int .i64 0, .int .i64 0, .int .i64 0] 42)
 rw [hz] at hN
 go_ret
 exact ⟨w.heap.size + 1, rfl, ⟨w.heap.size, [], ⟨hN, by omega, ⟨#[], 0, blk_alloc hm1 _, rfl⟩, hs1, (fun q hq => nomatch hq), List.nodup_nil⟩, rfl⟩, below_alloc hb1 _, below_alloc hb2 _⟩
def slv (q : Option Addr × Nat × Nat) : Value := .slice q.1 q.2.1 q.2.2
theorem slv_one (q : Option Addr × Nat × Nat) : (slv q).oneCell' = true := rfl
def kS : Kd (Int × Int × Int) := Kd.pair (Kd.int .i64) (Kd.pair (Kd.int .i64) (Kd.int .i64))
def kC : Kd (Int × Int × Int × (Option Addr × Nat × Nat)) := Kd.pair (Kd.int .i64) (Kd.pair (Kd.int .i64) (Kd.pair (Kd.int .i64) (Kd.scalar slv slv_one)))
theorem kS_open {w : World} {x : Int × Int × Int} {cs : List Value} (h : kS.K w x cs) : cs = [.int .i64 x.1, .int .i64 x.2.1, .int .i64 x.2.2] := by
 obtain ⟨_, _, rfl, rfl, ⟨_, _, rfl, rfl, rfl⟩⟩ := h
 rfl
theorem kS_mk (w : World) (x : Int × Int × Int) : kS.K w x [.int .i64 x.1, .int .i64 x.2.1, .int .i64 x.2.2] := ⟨[.int .i64 x.1], [.int .i64 x.2.1, .int .i64 x.2.2], rfl, rfl, ⟨[.int .i64 x.2.1], [.int .i64 x.2.2], rfl, rfl, rfl⟩⟩
theorem kS_mkM (w : World) (base : Nat) (ok : Nat → Prop) (x : Int × Int × Int) : kS.M w base ok x [.int .i64 x.1, .int .i64 x.2.1, .int .i64 x.2.2] := ⟨[.int .i64 x.1], [.int .i64 x.2.1, .int .i64 x.2.2], rfl, rfl, ⟨[.int .i64 x.2.1], [.int .i64 x.2.2], rfl, rfl, rfl⟩⟩
theorem kC_open {w : World} {x : Int × Int × Int × (Option Addr × Nat × Nat)} {cs : List Value} (h : kC.K w x cs) : cs = [.int .i64 x.1, .int .i64 x.2.1, .int .i64 x.2.2.1, slv x.2.2.2] := by
 obtain ⟨_, _, rfl, rfl, ⟨_, _, rfl, rfl, ⟨_, _, rfl, rfl, rfl⟩⟩⟩ := h
 rfl
theorem kC_mkM (w : World) (base : Nat) (ok : Nat → Prop) (x : Int × Int × Int × (Option Addr × Nat × Nat)) : kC.M w base ok x [.int .i64 x.1, .int .i64 x.2.1, .int .i64 x.2.2.1, slv x.2.2.2] :=
 ⟨[.int .i64 x.1], [.int .i64 x.2.1, .int .i64 x.2.2.1, slv x.2.2.2], rfl, rfl, ⟨[.int .i64 x.2.1], [.int .i64 x.2.2.1, slv x.2.2.2], rfl, rfl, ⟨[.int .i64 x.2.2.1], [slv x.2.2.2], rfl, rfl, rfl⟩⟩⟩
structure RCl where
 ra : Int
 by_ : Int
 se : Int
 l : List (Int × Int × Int)
structure PrS where
 b : Int
 l : List RCl
def Smp (w0 W : World) (q : Option Addr × Nat × Nat) (xs : List (Int × Int × Int)) : Prop :=
 q.2.1 = xs.length ∧ xs.length ≤ q.2.2 ∧ Kd.C kS W q.1 xs.length xs ∧ ∀ a, q.1 = some a → 0 < xs.length → w0.heap.size ≤ a.block ∧ ∃ cs, W.heap[a.block]? = some (.cells cs 57 (0, 0))
theorem Smp.same {w0 W W1 : World} {q : Option Addr × Nat × Nat} {xs : List (Int × Int × Int)} (h : Smp w0 W q xs) (hs : W.heap.size ≤ W1.heap.size) (hk : ∀ (i : Nat) (cs : Array Value), W.heap[i]? = some (.cells cs 57 (0, 0)) → W1.heap[i]? = some (.cells cs 57 (0, 0))) : Smp w0 W1 q xs := by
 obtain ⟨h1, h2, h3, h4⟩ := h
 refine ⟨h1, h2, ?_, fun a e hl => ?_⟩
 ·exact Kd.C_foot_neS (S := fun k => ¬ ∃ cs, W.heap[k]? = some (.cells cs 57 (0, 0))) (fun h => by rw [kS_open h]; exact kS_mk _ _) h3 (fun ad e hn hc => hc (h4 ad e hn).2) W1 ⟨hs, fun i _ hi => by
   obtain ⟨cs, hcs⟩ := Classical.byContradiction hi
   exact (hk i cs hcs).trans hcs.symm⟩
 ·obtain ⟨h5, cs, h6⟩ := h4 a e hl
  exact ⟨h5, cs, hk _ _ h6⟩
theorem Smp.below {w0 W W1 : World} {q : Option Addr × Nat × Nat} {xs : List (Int × Int × Int)} (h : Smp w0 W q xs) (hb : Below W.heap.size W W1) : Smp w0 W1 q xs := h.same hb.size (fun i cs hi => blk_below hi hb)
theorem Smp.rebase {w0 w1 W : World} {q : Option Addr × Nat × Nat} {xs : List (Int × Int × Int)} (h : Smp w1 W q xs) (hl : w0.heap.size ≤ w1.heap.size) : Smp w0 W q xs := ⟨h.1, h.2.1, h.2.2.1, fun a e hn => ⟨Nat.le_trans hl (h.2.2.2 a e hn).1, (h.2.2.2 a e hn).2⟩⟩
theorem Smp.nil (w0 W : World) : Smp w0 W (none, 0, 0) [] := ⟨rfl, Nat.le_refl _, Kd.C_nil kS W, fun a e => by cases e⟩
theorem Smp.own {w0 W : World} {ok : Nat → Prop} {A : Option Addr} {n c : Nat} {xs : List (Int × Int × Int)} (h : Kd.R kS 57 W w0.heap.size ok (.slice A n c) xs) : Smp w0 W (A, n, c) xs := by
 obtain ⟨A', c', e, hl, hc⟩ := Kd.R_reads h
 injection e with e1 e2 e3
 subst e1 e2 e3
 exact ⟨rfl, hl, hc, fun a ha hn => by
  have ha' : A = some a := ha
  exact ⟨Kd.R_base h a.block (by rw [ha']; simp [Value.ownBlock]), Kd.R_typed h a.block (by rw [ha']; simp [Value.ownBlock])⟩⟩
def ClR (w0 W : World) (v : Int × Int × Int × (Option Addr × Nat × Nat)) (x : RCl) : Prop := v.1 = x.ra ∧ v.2.1 = x.by_ ∧ v.2.2.1 = x.se ∧ Smp w0 W v.2.2.2 x.l
inductive RelC (w0 W : World) : List (Int × Int × Int × (Option Addr × Nat × Nat)) → List RCl → Prop where
 | nil : RelC w0 W [] []
 | cons {v : Int × Int × Int × (Option Addr × Nat × Nat)} {x : RCl} {vs : List (Int × Int × Int × (Option Addr × Nat × Nat))} {l : List RCl} : ClR w0 W v x → RelC w0 W vs l → RelC w0 W (v :: vs) (x :: l)
theorem RelC.same {w0 W W1 : World} {vs : List (Int × Int × Int × (Option Addr × Nat × Nat))} {l : List RCl} (h : RelC w0 W vs l) (hs : W.heap.size ≤ W1.heap.size) (hk : ∀ (i : Nat) (cs : Array Value), W.heap[i]? = some (.cells cs 57 (0, 0)) → W1.heap[i]? = some (.cells cs 57 (0, 0))) : RelC w0 W1 vs l := by
 induction h with
 | nil => exact .nil
 | cons h1 _ ih => exact .cons ⟨h1.1, h1.2.1, h1.2.2.1, h1.2.2.2.same hs hk⟩ ih
theorem RelC.rebase {w0 w1 W : World} {vs : List (Int × Int × Int × (Option Addr × Nat × Nat))} {l : List RCl} (h : RelC w1 W vs l) (hl : w0.heap.size ≤ w1.heap.size) : RelC w0 W vs l := by
 induction h with
 | nil => exact .nil
 | cons h1 _ ih => exact .cons ⟨h1.1, h1.2.1, h1.2.2.1, h1.2.2.2.rebase hl⟩ ih
theorem RelC.len {w0 W : World} {vs : List (Int × Int × Int × (Option Addr × Nat × Nat))} {l : List RCl} (h : RelC w0 W vs l) : vs.length = l.length := by
 induction h with
 | nil => rfl
 | cons _ _ ih => simp [ih]
theorem RelC.more {w0 W : World} {vs : List (Int × Int × Int × (Option Addr × Nat × Nat))} {l : List RCl} {v : Int × Int × Int × (Option Addr × Nat × Nat)} {x : RCl} (h : RelC w0 W vs l) (h1 : ClR w0 W v x) : RelC w0 W (vs ++ [v]) (l ++ [x]) := by
 induction h with
 | nil => exact .cons h1 .nil
 | cons a _ ih => exact .cons a ih
theorem RelC.at_ {w0 W : World} {vs : List (Int × Int × Int × (Option Addr × Nat × Nat))} {l : List RCl} (h : RelC w0 W vs l) : ∀ (i : Nat) (x : RCl), l[i]? = some x → ∃ v, vs[i]? = some v ∧ ClR w0 W v x := by
 induction h with
 | nil => intro i x h; simp at h
 | cons a _ ih =>
  intro i x h
  cases i with
  | zero =>
   simp only [List.getElem?_cons_zero, Option.some.injEq] at h
   subst h
   exact ⟨_, rfl, a⟩
  | succ i => exact ih i x (by simpa using h)
theorem RelC.set {w0 W : World} {vs : List (Int × Int × Int × (Option Addr × Nat × Nat))} {l : List RCl} {v : Int × Int × Int × (Option Addr × Nat × Nat)} {x : RCl} (h : RelC w0 W vs l) (h1 : ClR w0 W v x) : ∀ i : Nat, RelC w0 W (vs.set i v) (l.set i x) := by
 induction h with
 | nil => intro i; exact .nil
 | cons a b ih =>
  intro i
  cases i with
  | zero => exact .cons h1 b
  | succ i => exact .cons a (ih i)
def IsS45 (w0 W : World) (g : Nat) (s : PrS) : Prop := ∃ A n c vs, W.heap[g]? = some (.cells #[.slice A n c, .int .i64 s.b] 45 (0, 0)) ∧ w0.heap.size ≤ g ∧ Kd.R kC 52 W w0.heap.size (fun _ => True) (.slice A n c) vs ∧ RelC w0 W vs s.l
theorem IsS45.below {w0 W W1 : World} {g : Nat} {s : PrS} (h : IsS45 w0 W g s) (hb : Below W.heap.size W W1) : IsS45 w0 W1 g s := by
 obtain ⟨A, n, c, vs, h1, h2, h3, h4⟩ := h
 exact ⟨A, n, c, vs, blk_below h1 hb, h2, Kd.R_below h3 hb, h4.same hb.size (fun i cs hi => blk_below hi hb)⟩
theorem IsS45.rebase {w0 w1 W : World} {g : Nat} {s : PrS} (h : IsS45 w1 W g s) (hl : w0.heap.size ≤ w1.heap.size) : IsS45 w0 W g s := by
 obtain ⟨A, n, c, vs, h1, h2, h3, h4⟩ := h
 exact ⟨A, n, c, vs, h1, Nat.le_trans hl h2, Kd.R_lower h3 hl, h4.rebase hl⟩
theorem kC_E : kC.E = [] := rfl
theorem row_types {w W1 : World} {base : Nat} {v : Value} {vs : List (Int × Int × Int × (Option Addr × Nat × Nat))} (h : Kd.R kC 52 w base (fun _ => True) v vs) (hk : ∀ (i : Nat) (cs : Array Value), w.heap[i]? = some (.cells cs 52 (0, 0)) → W1.heap[i]? = some (.cells cs 52 (0, 0))) : Kd.R kC 52 W1 base (fun _ => True) v vs :=
 Kd.R_mono (Kd.R_move (Kd.R_bound h) (fun k hk' => by
  obtain ⟨_, _, _, q, hq, cs, hc⟩ := hk'
  rw [kC_E] at hq
  simp only [List.mem_singleton] at hq
  subst hq
  exact (hk k cs hc).trans hc.symm)) (fun _ _ => trivial)
def KeepR (w w' : World) : Prop := w.heap.size ≤ w'.heap.size ∧ ∀ (i : Nat) (o : Obj), w.heap[i]? = some o → (∀ cs, o ≠ .cells cs 45 (0, 0) ∧ o ≠ .cells cs 52 (0, 0) ∧ o ≠ .cells cs 57 (0, 0)) → w'.heap[i]? = some o
theorem KeepR.refl (w : World) : KeepR w w := ⟨Nat.le_refl _, fun _ _ h _ => h⟩
theorem KeepR.below {w W W1 : World} (h : KeepR w W) (hb : Below W.heap.size W W1) : KeepR w W1 := ⟨Nat.le_trans h.1 hb.size, fun i o hi ho => blk_below (h.2 i o hi ho) hb⟩
theorem KeepR.trans {w W W1 : World} (h : KeepR w W) (h1 : KeepR W W1) : KeepR w W1 := ⟨Nat.le_trans h.1 h1.1, fun i o hi ho => h1.2 i o (h.2 i o hi ho) ho⟩
theorem KeepR.grown {w W W1 : World} {b : Nat} {t : TypeId} {cs0 : Array Value} (h : KeepR w W) (hg : W.grownBy W1 (some b)) (hb : W.heap[b]? = some (.cells cs0 t (0, 0))) (ht : t = 45 ∨ t = 52 ∨ t = 57) : KeepR w W1 :=
 ⟨Nat.le_trans h.1 hg.size, fun i o hi ho => by
  have hh := h.2 i o hi ho
  by_cases e : i = b
  ·subst e
   rw [hb] at hh
   injection hh with hh
   subst hh
   obtain ⟨h1, h2, h3⟩ := ho cs0
   rcases ht with rfl | rfl | rfl
   ·exact absurd rfl h1
   ·exact absurd rfl h2
   ·exact absurd rfl h3
  ·exact (hg.block i (blk_lt hh) (fun he => by injection he with he; exact e he)).trans hh⟩
theorem KeepR.set {w W : World} {b j : Nat} {t : TypeId} {cs0 : Array Value} {u : Value} (h : KeepR w W) (hb : W.heap[b]? = some (.cells cs0 t (0, 0))) (ht : t = 45 ∨ t = 52 ∨ t = 57) : KeepR w (W.setCell ⟨b, j, none⟩ u) :=
 ⟨by simpa [World.setCell] using h.1, fun i o hi ho => by
  have hh := h.2 i o hi ho
  by_cases e : i = b
  ·subst e
   rw [hb] at hh
   injection hh with hh
   subst hh
   obtain ⟨h1, h2, h3⟩ := ho cs0
   rcases ht with rfl | rfl | rfl
   ·exact absurd rfl h1
   ·exact absurd rfl h2
   ·exact absurd rfl h3
  ·exact (Below.heap_setCell W ⟨b, j, none⟩ u i e).trans hh⟩
theorem IsS42.keepR {w0 W W1 : World} {g : Nat} {s : PbS} (h : IsS42 w0 W g s) (hk : KeepR W W1) : IsS42 w0 W1 g s := by
 obtain ⟨m, L, h, e⟩ := h
 refine ⟨m, L, ⟨hk.2 _ _ h.blk (fun cs => ?_), h.ge, h.mp.same (fun es cl hm => hk.2 _ _ hm (fun cs => ?_)), h.mge, fun q hq => ⟨hk.2 _ _ (h.oth q hq).1 (fun cs => ?_), (h.oth q hq).2⟩, h.nd⟩, e⟩
 all_goals (refine ⟨fun e => ?_, fun e => ?_, fun e => ?_⟩ <;> first | (injection e with _ e2 _; exact absurd e2 (by decide)) | cases e)
theorem IsS45.keepT {w0 W W1 : World} {g : Nat} {s : PrS} (h : IsS45 w0 W g s) (hk : KeepT W W1) : IsS45 w0 W1 g s := by
 obtain ⟨A, n, c, vs, h1, h2, h3, h4⟩ := h
 exact ⟨A, n, c, vs, hk.2 _ _ _ _ h1 (by decide) (by decide), h2, row_types h3 (fun i cs hi => hk.2 _ _ _ _ hi (by decide) (by decide)), h4.same hk.1 (fun i cs hi => hk.2 _ _ _ _ hi (by decide) (by decide))⟩
theorem IsS45.ge {w0 W : World} {g : Nat} {s : PrS} (h : IsS45 w0 W g s) : w0.heap.size ≤ g := by
 obtain ⟨A, n, c, vs, h1, h2, h3, h4⟩ := h
 exact h2
theorem IsS45.blk {w0 W : World} {g : Nat} {s : PrS} (h : IsS45 w0 W g s) : ∃ cs, W.heap[g]? = some (.cells cs 45 (0, 0)) := by
 obtain ⟨A, n, c, vs, h1, h2, h3, h4⟩ := h
 exact ⟨_, h1⟩
theorem IsS45.lt {w0 W : World} {g : Nat} {s : PrS} (h : IsS45 w0 W g s) : g < W.heap.size := by
 obtain ⟨cs, h⟩ := h.blk
 exact blk_lt h
theorem IsS45.alloc {w0 W : World} {g : Nat} {s : PrS} (h : IsS45 w0 W g s) (o : Obj) : IsS45 w0 (W.alloc o) g s := h.below (below_alloc (Below.refl _ _) o)
theorem IsS45.drewN {w0 W : World} {g : Nat} {s : PrS} (h : IsS45 w0 W g s) (n : Nat) : IsS45 w0 (W.drewN n) g s := h.below (pw_below_drewN (Below.refl _ _) n)
theorem IsS45.drew {w0 W : World} {g : Nat} {s : PrS} (h : IsS45 w0 W g s) : IsS45 w0 W.drew g s := h.below (below_drew (Below.refl _ _))
theorem at_kC {w : World} {A : Option Addr} {n : Nat} {vs : List (Int × Int × Int × (Option Addr × Nat × Nat))} (h : Kd.C kC w A n vs) (i : Int) (h0 : 0 ≤ i) (h1 : i < n) {v : Int × Int × Int × (Option Addr × Nat × Nat)} (hv : vs[i.toNat]? = some v) :
  ∃ ad, A = some ad ∧ w.cell? (ad.add (i.toNat * 4)) = some (.int .i64 v.1) ∧ w.cell? ⟨(ad.add (i.toNat * 4)).block, (ad.add (i.toNat * 4)).off + 1, none⟩ = some (.int .i64 v.2.1) ∧ w.cell? ⟨(ad.add (i.toNat * 4)).block, (ad.add (i.toNat * 4)).off + 2, none⟩ = some (.int .i64 v.2.2.1) ∧ w.cell? ⟨(ad.add (i.toNat * 4)).block, (ad.add (i.toNat * 4)).off + 3, none⟩ = some (.slice v.2.2.2.1 v.2.2.2.2.1 v.2.2.2.2.2) := by
 obtain ⟨ad, c, e, _, hK, hc0⟩ := Kd.C_get h v i h0 h1
 have hv2 : vs.getD i.toNat v = v := by rw [List.getD_eq_getElem?_getD, hv]; rfl
 rw [hv2] at hK
 have hc : ∀ j u, c[j]? = some u → w.cell? (ad.add (i.toNat * 4 + j)) = some u := hc0
 obtain rfl := kC_open hK
 exact ⟨ad, e, hc 0 _ rfl, by rw [← add_field _ _ 1 (by omega)]; exact hc 1 _ rfl, by rw [← add_field _ _ 2 (by omega)]; exact hc 2 _ rfl, by rw [← add_field _ _ 3 (by omega)]; exact hc 3 _ rfl⟩
theorem at_kS {w : World} {A : Option Addr} {n : Nat} {xs : List (Int × Int × Int)} (h : Kd.C kS w A n xs) (i : Int) (h0 : 0 ≤ i) (h1 : i < n) {x : Int × Int × Int} (hx : xs[i.toNat]? = some x) :
  ∃ ad, A = some ad ∧ w.cell? (ad.add (i.toNat * 3)) = some (.int .i64 x.1) ∧ w.cell? ⟨(ad.add (i.toNat * 3)).block, (ad.add (i.toNat * 3)).off + 1, none⟩ = some (.int .i64 x.2.1) ∧ w.cell? ⟨(ad.add (i.toNat * 3)).block, (ad.add (i.toNat * 3)).off + 2, none⟩ = some (.int .i64 x.2.2) := by
 obtain ⟨ad, c, e, _, hK, hc0⟩ := Kd.C_get h x i h0 h1
 have hx2 : xs.getD i.toNat x = x := by rw [List.getD_eq_getElem?_getD, hx]; rfl
 rw [hx2] at hK
 have hc : ∀ j u, c[j]? = some u → w.cell? (ad.add (i.toNat * 3 + j)) = some u := hc0
 obtain rfl := kS_open hK
 exact ⟨ad, e, hc 0 _ rfl, by rw [← add_field _ _ 1 (by omega)]; exact hc 1 _ rfl, by rw [← add_field _ _ 2 (by omega)]; exact hc 2 _ rfl⟩
def prOpen (s : PrS) : Bool := match s.l.getLast? with
 | none => false
 | some c => decide (c.se < c.by_)
theorem bkt {W : World} {a b : Nat} {cs cs' : Array Value} {t t' : TypeId} {fr fr' : Nat × Nat} (h : W.heap[a]? = some (.cells cs t fr)) (h' : W.heap[b]? = some (.cells cs' t' fr')) (hne : t ≠ t') : a ≠ b := by
 rintro rfl
 rw [h] at h'
 injection h' with h'
 injection h' with _ h'
 exact hne h'
theorem own_kC {w : World} {base : Nat} {A : Option Addr} {n c : Nat} {vs : List (Int × Int × Int × (Option Addr × Nat × Nat))} (h : Kd.R kC 52 w base (fun _ => True) (.slice A n c) vs) (i : Int) (h0 : 0 ≤ i) (h1 : i < n) {v : Int × Int × Int × (Option Addr × Nat × Nat)} (hv : vs[i.toNat]? = some v) :
  ∃ b, A = some ⟨b, 0, none⟩ ∧ base ≤ b ∧ (∃ cs, w.heap[b]? = some (.cells cs 52 (0, 0))) ∧ (∀ j, w.frozen? ⟨b, i.toNat * 4 + j, none⟩ = false) ∧ w.cell? ⟨b, i.toNat * 4, none⟩ = some (.int .i64 v.1) ∧ w.cell? ⟨b, i.toNat * 4 + 1, none⟩ = some (.int .i64 v.2.1) ∧ w.cell? ⟨b, i.toNat * 4 + 2, none⟩ = some (.int .i64 v.2.2.1) ∧ w.cell? ⟨b, i.toNat * 4 + 3, none⟩ = some (.slice v.2.2.2.1 v.2.2.2.2.1 v.2.2.2.2.2) := by
 obtain ⟨hn, _, hC⟩ := Kd.R_reads' h
 rw [← hn] at hC
 obtain ⟨ad, e, _, _, _, _⟩ := at_kC hC i h0 h1 hv
 subst e
 obtain ⟨b, e⟩ := Kd.R_head h
 subst e
 have hb := Kd.R_base h b (by simp [Value.ownBlock])
 obtain ⟨cs, hcs⟩ := Kd.R_typed h b (by simp [Value.ownBlock])
 obtain ⟨c', hl, hM, hc, hf⟩ := Kd.R_elem h v i h0 h1
 have hv2 : vs.getD i.toNat v = v := by rw [List.getD_eq_getElem?_getD, hv]; rfl
 rw [hv2] at hM
 obtain rfl := kC_open (kC.K_of_M hM)
 exact ⟨b, rfl, hb, ⟨cs, hcs⟩, hf, hc 0 _ rfl, hc 1 _ rfl, hc 2 _ rfl, hc 3 _ rfl⟩
theorem put_kC {w : World} {base b : Nat} {n c : Nat} {vs : List (Int × Int × Int × (Option Addr × Nat × Nat))} (h : Kd.R kC 52 w base (fun _ => True) (.slice (some ⟨b, 0, none⟩) n c) vs) (i : Int) (h0 : 0 ≤ i) (h1 : i < n) {v v' : Int × Int × Int × (Option Addr × Nat × Nat)} (hv : vs[i.toNat]? = some v) (j : Nat) (u : Value) (hu : u.oneCell' = true)
  (e : [Value.int .i64 v.1, .int .i64 v.2.1, .int .i64 v.2.2.1, slv v.2.2.2].take j ++ [u] ++ [Value.int .i64 v.1, .int .i64 v.2.1, .int .i64 v.2.2.1, slv v.2.2.2].drop (j + 1) = [Value.int .i64 v'.1, .int .i64 v'.2.1, .int .i64 v'.2.2.1, slv v'.2.2.2]) (hj : j < 4) :
  Kd.R kC 52 (w.setCell ⟨b, i.toNat * 4 + j, none⟩ u) base (fun _ => True) (.slice (some ⟨b, 0, none⟩) n c) (vs.set i.toNat v') ∧ w.grownBy (w.setCell ⟨b, i.toNat * 4 + j, none⟩ u) (some b) := by
 obtain ⟨c', hl, hM, hc, hf⟩ := Kd.R_elem h v i h0 h1
 have hv2 : vs.getD i.toNat v = v := by rw [List.getD_eq_getElem?_getD, hv]; rfl
 rw [hv2] at hM
 obtain rfl := kC_open (kC.K_of_M hM)
 have hM' : kC.M w base (fun k => True ∧ k ≠ b) v' ([Value.int .i64 v.1, .int .i64 v.2.1, .int .i64 v.2.2.1, slv v.2.2.2].take j ++ [u] ++ [Value.int .i64 v.1, .int .i64 v.2.1, .int .i64 v.2.2.1, slv v.2.2.2].drop (j + 1)) := by
  rw [e]; exact kC_mkM w base _ v'
 exact Kd.R_seg h i h0 h1 (seg := [u]) hl hc (by show j + 1 ≤ 4; omega) hM' (fun k hk => hk)
theorem KeepT.kblk {W W1 : World} (hk : KeepT W W1) {g' : Nat} {cs : Array Value} {t : TypeId} (hb : W.heap[g']? = some (.cells cs t (0, 0))) {p : Prop} (_ : p) (ht : t ≠ 42 ∧ t ≠ 49) : W1.heap[g']? = some (.cells cs t (0, 0)) := hk.2 _ _ _ _ hb ht.1 ht.2
theorem KeepR.kblk {W W1 : World} (hk : KeepR W W1) {g' : Nat} {cs : Array Value} {t : TypeId} (hb : W.heap[g']? = some (.cells cs t (0, 0))) {p : Prop} (_ : p) (ht : t ≠ 45 ∧ t ≠ 52 ∧ t ≠ 57) : W1.heap[g']? = some (.cells cs t (0, 0)) :=
 hk.2 _ _ hb (fun cs => ⟨fun e => by injection e with _ e _; exact ht.1 e, fun e => by injection e with _ e _; exact ht.2.1 e, fun e => by injection e with _ e _; exact ht.2.2 e⟩)
def TB (W : World) (b : Nat) : Prop := ∃ cs t, W.heap[b]? = some (.cells cs t (0, 0)) ∧ t ≠ 42 ∧ t ≠ 49 ∧ t ≠ 45 ∧ t ≠ 52 ∧ t ≠ 57
theorem TB.set {W : World} {b : Nat} (h : TB W b) (j : Nat) (u : Value) : TB (W.setCell ⟨b, j, none⟩ u) b := by
 obtain ⟨cs, t, h1, h2⟩ := h
 exact ⟨_, t, blk_set h1 j u, h2⟩
theorem TB.below {W W1 : World} {b : Nat} (h : TB W b) (hb : Below W.heap.size W W1) : TB W1 b := by
 obtain ⟨cs, t, h1, h2⟩ := h
 exact ⟨cs, t, blk_below h1 hb, h2⟩
theorem TB.drew {W : World} {b : Nat} (h : TB W b) : TB W.drew b := h.below (below_drew (Below.refl _ _))
theorem TB.drewN {W : World} {b : Nat} (h : TB W b) (n : Nat) : TB (W.drewN n) b := h.below (pw_below_drewN (Below.refl _ _) n)
theorem TB.alloc {W : World} {b : Nat} (h : TB W b) (o : Obj) : TB (W.alloc o) b := h.below (below_alloc (Below.refl _ _) o)
theorem IsS42.farB {w0 W : World} {g b j : Nat} {s : PbS} {u : Value} (h : IsS42 w0 W g s) (hb : TB W b) : IsS42 w0 (W.setCell ⟨b, j, none⟩ u) g s := by
 obtain ⟨cs, t, h1, h2, h3, h4, h5, h6⟩ := hb
 obtain ⟨m, L, h, e⟩ := h
 refine ⟨m, L, ⟨blk_far (p := ⟨b, j, none⟩) h.blk (bkt h.blk h1 (Ne.symm h2)) u, h.ge, h.mp.same (fun es cl hm => (Below.heap_setCell W ⟨b, j, none⟩ u m (map_not_cells hm h1)).trans hm), h.mge, fun q hq => ⟨blk_far (p := ⟨b, j, none⟩) (h.oth q hq).1 (bkt (h.oth q hq).1 h1 (Ne.symm h3)) u, (h.oth q hq).2⟩, h.nd⟩, e⟩
theorem IsS45.farB {w0 W : World} {g b j : Nat} {s : PrS} {u : Value} (h : IsS45 w0 W g s) (hb : TB W b) : IsS45 w0 (W.setCell ⟨b, j, none⟩ u) g s := by
 obtain ⟨cs, t, h1, h2, h3, h4, h5, h6⟩ := hb
 obtain ⟨A, n, c, vs, k1, k2, k3, k4⟩ := h
 have hk : ∀ (i : Nat) (cs' : Array Value) (t' : TypeId), W.heap[i]? = some (.cells cs' t' (0, 0)) → t' ≠ t → (W.setCell ⟨b, j, none⟩ u).heap[i]? = some (.cells cs' t' (0, 0)) := fun i cs' t' hi ht => (Below.heap_setCell W ⟨b, j, none⟩ u i (bkt hi h1 ht)).trans hi
 exact ⟨A, n, c, vs, hk _ _ _ k1 (Ne.symm h4), k2, row_types k3 (fun i cs hi => hk i cs 52 hi (Ne.symm h5)), k4.same (by simp [World.setCell]) (fun i cs hi => hk i cs 57 hi (Ne.symm h6))⟩
def flywheelref26_New.f : Option PrS := some ⟨0, []⟩
set_option maxHeartbeats 16000000 in
set_option maxRecDepth 100000 in
theorem flywheelref26_New.calls (r1 : PrS) (w0 w : World) (hB : Below w0.heap.size w0 w) (h : flywheelref26_New.f = some r1) :
  Calls Try.prog 5 #[] w fun e w' => ∃ g_ : Nat, e = .returned (.pointer (some ⟨g_, 0, none⟩)) ∧ IsS45 w0 w' g_ r1 ∧ Below w0.heap.size w0 w' ∧ Below w.heap.size w w' := by
 have hu45 := Try.underlying45
 simp only [flywheelref26_New.f, Option.some.injEq] at h
 subst h
 go_enter Try.func5, Try.ntmps5
 have hb1 := below_alloc hB (.cells #[.slice none 0 0, .int .i64 0] 45)
 have hb2 := below_alloc (Below.refl w.heap.size w) (.cells #[.slice none 0 0, .int .i64 0] 45)
 have hs1 := hB.size
 go_wp2
 have hN := blk_new w (.cells #[.slice none 0 0, .int .i64 0] 45)
 go_ret
 exact ⟨w.heap.size, rfl, ⟨none, 0, 0, [], hN, hs1, Kd.R_nil _ _ _ _ _, .nil⟩, hb1, hb2⟩
def bits_Mul64.f (a0 : Int) (a1 : Int) : Option (Int × Int) := some (IntKind.u64.wrap ((IntKind.u64.wrap ((IntKind.u64.wrap ((a0 / 4294967296) * (a1 / 4294967296))) + ((IntKind.u64.wrap ((IntKind.u64.wrap ((a0 / 4294967296) * (Go.bits .and .u64 a1 4294967295))) + ((IntKind.u64.wrap ((Go.bits .and .u64 a0 4294967295) * (Go.bits .and .u64 a1 4294967295))) / 4294967296))) / 4294967296))) + ((IntKind.u64.wrap ((Go.bits .and .u64 (IntKind.u64.wrap ((IntKind.u64.wrap ((a0 / 4294967296) * (Go.bits .and .u64 a1 4294967295))) + ((IntKind.u64.wrap ((Go.bits .and .u64 a0 4294967295) * (Go.bits .and .u64 a1 4294967295))) / 4294967296))) 4294967295) + (IntKind.u64.wrap ((Go.bits .and .u64 a0 4294967295) * (a1 / 4294967296))))) / 4294967296)), IntKind.u64.wrap (a0 * a1))
set_option maxHeartbeats 8000000 in
set_option maxRecDepth 100000 in
theorem bits_Mul64.calls (a0 : Int) (a1 : Int) (r1 : Int) (r2 : Int) (w : World) (h : bits_Mul64.f a0 a1 = some (r1, r2)) :
  Calls Try.prog 36 #[.int .u64 a0, .int .u64 a1] w fun e w' => e = .returned (.tuple #[.int .u64 r1, .int .u64 r2]) ∧ Drawn0 w w' := by
 have H : (some (IntKind.u64.wrap ((IntKind.u64.wrap ((IntKind.u64.wrap ((a0 / 4294967296) * (a1 / 4294967296))) + ((IntKind.u64.wrap ((IntKind.u64.wrap ((a0 / 4294967296) * (Go.bits .and .u64 a1 4294967295))) + ((IntKind.u64.wrap ((Go.bits .and .u64 a0 4294967295) * (Go.bits .and .u64 a1 4294967295))) / 4294967296))) / 4294967296))) + ((IntKind.u64.wrap ((Go.bits .and .u64 (IntKind.u64.wrap ((IntKind.u64.wrap ((a0 / 4294967296) * (Go.bits .and .u64 a1 4294967295))) + ((IntKind.u64.wrap ((Go.bits .and .u64 a0 4294967295) * (Go.bits .and .u64 a1 4294967295))) / 4294967296))) 4294967295) + (IntKind.u64.wrap ((Go.bits .and .u64 a0 4294967295) * (a1 / 4294967296))))) / 4294967296)), IntKind.u64.wrap (a0 * a1))) = some (r1, r2) := h
 clear h
 simp only [Option.some.injEq, Prod.mk.injEq] at H
 obtain ⟨rfl, rfl⟩ := H
 go_enter Try.func36, Try.ntmps36
 go_wp2
 go_ret2
 exact ⟨by first | rfl | (simp; done) | (simp [*]; done), by repeat (first | exact Drawn0.refl _ | apply Drawn0.step)⟩
def muldiv_size.f (a0 : Int) : Option (Int) := if a0 < 0 then (some (IntKind.u64.wrap (-(IntKind.u64.wrap (a0))))) else (some (IntKind.u64.wrap (a0)))
set_option maxHeartbeats 8000000 in
set_option maxRecDepth 100000 in
theorem muldiv_size.calls (a0 : Int) (r : Int) (w : World) (h : muldiv_size.f a0 = some r) :
  Calls Try.prog 37 #[.int .i64 a0] w fun e w' => e = .returned (.int .u64 r) ∧ Drawn0 w w' := by
 have H : (if a0 < 0 then (some (IntKind.u64.wrap (-(IntKind.u64.wrap (a0))))) else (some (IntKind.u64.wrap (a0)))) = some r := h
 clear h
 by_cases c2 : a0 < 0
 ·rw [if_pos c2] at H
  have c2b0 : decide (a0 < 0) = true := decide_eq_true c2
  clear c2
  obtain rfl := Option.some.inj H
  go_enter Try.func37, Try.ntmps37
  go_wp2
  go_ret
  exact ⟨by first | rfl | (simp; done) | (simp [*]; done), by repeat (first | exact Drawn0.refl _ | apply Drawn0.step)⟩
 ·rw [if_neg c2] at H
  have c2b0 : decide (a0 < 0) = false := decide_eq_false c2
  clear c2
  obtain rfl := Option.some.inj H
  go_enter Try.func37, Try.ntmps37
  go_wp2
  go_ret
  exact ⟨by first | rfl | (simp; done) | (simp [*]; done), by repeat (first | exact Drawn0.refl _ | apply Drawn0.step)⟩
def bits_Len64.f (a0 : Int) : Option (Int) := if 0 ≤ a0 ∧ a0 ≤ 18446744073709551615 then some (Lib.bitLen a0.toNat) else none
theorem bits_Len64.calls (a0 : Int) (r : Int) (w : World) (h : bits_Len64.f a0 = some r) :
  Calls Try.prog 43 #[.int .u64 a0] w fun e w' => e = .returned (.int .i64 r) ∧ Drawn0 w w' := by
 unfold bits_Len64.f at h
 split at h
 ·rename_i hb
  obtain rfl := Option.some.inj h
  refine (Try.bits_Len64 a0 w hb.1 hb.2).mono ?_
  rintro e w' ⟨rfl, rfl⟩
  exact ⟨rfl, Drawn0.refl _⟩
 ·cases h
def bits_LeadingZeros64.f (a0 : Int) : Option (Int) := (bits_Len64.f a0).bind fun t101 => (some (wrap64 (64 - t101)))
set_option maxHeartbeats 8000000 in
set_option maxRecDepth 100000 in
theorem bits_LeadingZeros64.calls (a0 : Int) (r : Int) (w : World) (h : bits_LeadingZeros64.f a0 = some r) :
  Calls Try.prog 42 #[.int .u64 a0] w fun e w' => e = .returned (.int .i64 r) ∧ Drawn0 w w' := by
 have H : ((bits_Len64.f a0).bind fun t101 => (some (wrap64 (64 - t101)))) = some r := h
 clear h
 replace H := Option.bind_eq_some_iff.mp H
 obtain ⟨t101, A20, H⟩ := H
 replace H : (some (wrap64 (64 - t101))) = some r := H
 have A2 := Aside0.mk A20
 clear A20
 obtain rfl := Option.some.inj H
 go_enter Try.func42, Try.ntmps42
 go_wp2_with (first | ((with_reducible refine gate_callee (f := 43) rfl ?_); refine goesL_ (some 4) rfl rfl Try.func43 (by kernel_rfl) rfl #[.int .u64 a0] rfl (by (try simp only [List.map_toArray, List.map_cons, List.map_nil]); first | done | rfl | (simp only [List.length_drop, List.length_take]; rfl)) ?_; (with_reducible refine (bits_Len64.calls a0 t101 _ A2.out).mono ?_); rintro e w' ⟨rfl, ⟨nd, rfl⟩⟩; refine ⟨_, rfl, ?_⟩))
 go_ret
 exact ⟨by first | rfl | (simp; done) | (simp [*]; done), by repeat (first | exact Drawn0.refl _ | apply Drawn0.step)⟩
end Go.Proofs.Ytdddpmmpfemibaa.P
end

section
namespace Go.Proofs.Ytdddpmmpfemibaa.P
open Go.RowKit Go.Proofs.YtdddpmmpfemibaaW.PrintWords Go.Proofs.YtdddpmmpfemibaaW.PrintLast Go.Proofs.YtdddpmmpfemibaaW.PrintMore
attribute [local go_sem] max2_int min2_int max_two min_two max_three min_three max_four min_four   -- for this text's walks alone
set_option linter.unusedVariables false
set_option linter.unusedSimpArgs false
mutual
def bits_Div64.j2 : Nat → Int → Int → Int → Int → Int → Int → Int → Int → Option (Int × Int)
 | 0, _, _, _, _, _, _, _, _ => none
 | k + 1, x2, x8, x9, x10, x11, x13, x14, x15 => if x9 = 0 then (none) else (bits_Div64.l1 k x2 x8 x9 x10 x14 x15 (IntKind.u64.wrap ((IntKind.u64.wrap ((IntKind.u64.wrap ((IntKind.u64.wrap (x11 * 4294967296)) + x13)) - (IntKind.u64.wrap (x15 * x2)))) - (IntKind.u64.wrap ((IntKind.u64.wrap (Int.tdiv (IntKind.u64.wrap ((IntKind.u64.wrap ((IntKind.u64.wrap (x11 * 4294967296)) + x13)) - (IntKind.u64.wrap (x15 * x2)))) x9)) * x9)))) (IntKind.u64.wrap ((IntKind.u64.wrap ((IntKind.u64.wrap (x11 * 4294967296)) + x13)) - (IntKind.u64.wrap (x15 * x2)))) (IntKind.u64.wrap (Int.tdiv (IntKind.u64.wrap ((IntKind.u64.wrap ((IntKind.u64.wrap (x11 * 4294967296)) + x13)) - (IntKind.u64.wrap (x15 * x2)))) x9)))
def bits_Div64.l1 : Nat → Int → Int → Int → Int → Int → Int → Int → Int → Int → Option (Int × Int)
 | 0, _, _, _, _, _, _, _, _, _ => none
 | k + 1, x2, x8, x9, x10, x14, x15, x16, x17, x18 => if x18 ≥ 4294967296 then (bits_Div64.j4 k x2 x8 x9 x10 x14 x15 x16 x17 x18 true) else (bits_Div64.j4 k x2 x8 x9 x10 x14 x15 x16 x17 x18 (decide ((IntKind.u64.wrap (x18 * x10)) > (IntKind.u64.wrap ((IntKind.u64.wrap (4294967296 * x16)) + x14)))))
def bits_Div64.j4 : Nat → Int → Int → Int → Int → Int → Int → Int → Int → Int → Bool → Option (Int × Int)
 | 0, _, _, _, _, _, _, _, _, _, _ => none
 | k + 1, x2, x8, x9, x10, x14, x15, x16, x17, x18, x113 => if x113 = true then (if (IntKind.u64.wrap (x16 + x9)) ≥ 4294967296 then (if 0 ≤ x8 then (some (IntKind.u64.wrap ((IntKind.u64.wrap (x15 * 4294967296)) + (IntKind.u64.wrap (x18 - 1))), shr .u64 (IntKind.u64.wrap ((IntKind.u64.wrap ((IntKind.u64.wrap (x17 * 4294967296)) + x14)) - (IntKind.u64.wrap ((IntKind.u64.wrap (x18 - 1)) * x2)))) x8)) else (none)) else (bits_Div64.l1 k x2 x8 x9 x10 x14 x15 (IntKind.u64.wrap (x16 + x9)) x17 (IntKind.u64.wrap (x18 - 1)))) else (if 0 ≤ x8 then (some (IntKind.u64.wrap ((IntKind.u64.wrap (x15 * 4294967296)) + x18), shr .u64 (IntKind.u64.wrap ((IntKind.u64.wrap ((IntKind.u64.wrap (x17 * 4294967296)) + x14)) - (IntKind.u64.wrap (x18 * x2)))) x8)) else (none))
def bits_Div64.l0 : Nat → Int → Int → Int → Int → Int → Int → Int → Int → Int → Option (Int × Int)
 | 0, _, _, _, _, _, _, _, _, _ => none
 | k + 1, x2, x8, x9, x10, x11, x13, x14, x15, x16 => if x15 ≥ 4294967296 then (bits_Div64.j1 k x2 x8 x9 x10 x11 x13 x14 x15 x16 true) else (bits_Div64.j1 k x2 x8 x9 x10 x11 x13 x14 x15 x16 (decide ((IntKind.u64.wrap (x15 * x10)) > (IntKind.u64.wrap ((IntKind.u64.wrap (4294967296 * x16)) + x13)))))
def bits_Div64.j1 : Nat → Int → Int → Int → Int → Int → Int → Int → Int → Int → Bool → Option (Int × Int)
 | 0, _, _, _, _, _, _, _, _, _, _ => none
 | k + 1, x2, x8, x9, x10, x11, x13, x14, x15, x16, x78 => if x78 = true then (if (IntKind.u64.wrap (x16 + x9)) ≥ 4294967296 then (bits_Div64.j2 k x2 x8 x9 x10 x11 x13 x14 (IntKind.u64.wrap (x15 - 1))) else (bits_Div64.l0 k x2 x8 x9 x10 x11 x13 x14 (IntKind.u64.wrap (x15 - 1)) (IntKind.u64.wrap (x16 + x9)))) else (bits_Div64.j2 k x2 x8 x9 x10 x11 x13 x14 x15)
end
def bits_Div64.f (k : Nat) (a0 : Int) (a1 : Int) (a2 : Int) : Option (Int × Int) := if a2 = 0 then (none) else (if a2 ≤ a0 then (none) else (if a0 = 0 then (some (IntKind.u64.wrap (Int.tdiv a1 a2), Int.tmod a1 a2)) else ((bits_LeadingZeros64.f a2).bind fun t102 => (if 0 ≤ (IntKind.u64.wrap (t102)) then (if 0 ≤ (IntKind.u64.wrap (64 - (IntKind.u64.wrap (t102)))) then (if ((shl .u64 a2 (IntKind.u64.wrap (t102))) / 4294967296) = 0 then (none) else (bits_Div64.l0 k (shl .u64 a2 (IntKind.u64.wrap (t102))) (IntKind.u64.wrap (t102)) ((shl .u64 a2 (IntKind.u64.wrap (t102))) / 4294967296) (Go.bits .and .u64 (shl .u64 a2 (IntKind.u64.wrap (t102))) 4294967295) (Go.bits .or .u64 (shl .u64 a0 (IntKind.u64.wrap (t102))) (shr .u64 a1 (IntKind.u64.wrap (64 - (IntKind.u64.wrap (t102)))))) ((shl .u64 a1 (IntKind.u64.wrap (t102))) / 4294967296) (Go.bits .and .u64 (shl .u64 a1 (IntKind.u64.wrap (t102))) 4294967295) (IntKind.u64.wrap (Int.tdiv (Go.bits .or .u64 (shl .u64 a0 (IntKind.u64.wrap (t102))) (shr .u64 a1 (IntKind.u64.wrap (64 - (IntKind.u64.wrap (t102)))))) ((shl .u64 a2 (IntKind.u64.wrap (t102))) / 4294967296))) (IntKind.u64.wrap ((Go.bits .or .u64 (shl .u64 a0 (IntKind.u64.wrap (t102))) (shr .u64 a1 (IntKind.u64.wrap (64 - (IntKind.u64.wrap (t102)))))) - (IntKind.u64.wrap ((IntKind.u64.wrap (Int.tdiv (Go.bits .or .u64 (shl .u64 a0 (IntKind.u64.wrap (t102))) (shr .u64 a1 (IntKind.u64.wrap (64 - (IntKind.u64.wrap (t102)))))) ((shl .u64 a2 (IntKind.u64.wrap (t102))) / 4294967296))) * ((shl .u64 a2 (IntKind.u64.wrap (t102))) / 4294967296))))))) else (none)) else (none)))))
set_option maxHeartbeats 8000000 in
set_option maxRecDepth 100000 in
theorem bits_Div64.calls (k : Nat) (a0 : Int) (a1 : Int) (a2 : Int) (r1 : Int) (r2 : Int) (w : World) (h : bits_Div64.f k a0 a1 a2 = some (r1, r2)) :
  Calls Try.prog 41 #[.int .u64 a0, .int .u64 a1, .int .u64 a2] w fun e w' => e = .returned (.tuple #[.int .u64 r1, .int .u64 r2]) ∧ Drawn0 w w' := by
 have H : (if a2 = 0 then (none) else (if a2 ≤ a0 then (none) else (if a0 = 0 then (some (IntKind.u64.wrap (Int.tdiv a1 a2), Int.tmod a1 a2)) else ((bits_LeadingZeros64.f a2).bind fun t102 => (if 0 ≤ (IntKind.u64.wrap (t102)) then (if 0 ≤ (IntKind.u64.wrap (64 - (IntKind.u64.wrap (t102)))) then (if ((shl .u64 a2 (IntKind.u64.wrap (t102))) / 4294967296) = 0 then (none) else (bits_Div64.l0 k (shl .u64 a2 (IntKind.u64.wrap (t102))) (IntKind.u64.wrap (t102)) ((shl .u64 a2 (IntKind.u64.wrap (t102))) / 4294967296) (Go.bits .and .u64 (shl .u64 a2 (IntKind.u64.wrap (t102))) 4294967295) (Go.bits .or .u64 (shl .u64 a0 (IntKind.u64.wrap (t102))) (shr .u64 a1 (IntKind.u64.wrap (64 - (IntKind.u64.wrap (t102)))))) ((shl .u64 a1 (IntKind.u64.wrap (t102))) / 4294967296) (Go.bits .and .u64 (shl .u64 a1 (IntKind.u64.wrap (t102))) 4294967295) (IntKind.u64.wrap (Int.tdiv (Go.bits .or .u64 (shl .u64 a0 (IntKind.u64.wrap (t102))) (shr .u64 a1 (IntKind.u64.wrap (64 - (IntKind.u64.wrap (t102)))))) ((shl .u64 a2 (IntKind.u64.wrap (t102))) / 4294967296))) (IntKind.u64.wrap ((Go.bits .or .u64 (shl .u64 a0 (IntKind.u64.wrap (t102))) (shr .u64 a1 (IntKind.u64.wrap (64 - (IntKind.u64.wrap (t102)))))) - (IntKind.u64.wrap ((IntKind.u64.wrap (Int.tdiv (Go.bits .or .u64 (shl .u64 a0 (IntKind.u64.wrap (t102))) (shr .u64 a1 (IntKind.u64.wrap (64 - (IntKind.u64.wrap (t102)))))) ((shl .u64 a2 (IntKind.u64.wrap (t102))) / 4294967296))) * ((shl .u64 a2 (IntKind.u64.wrap (t102))) / 4294967296))))))) else (none)) else (none)))))) = some (r1, r2) := h
 clear h
 by_cases c4 : a2 = 0
 ·rw [if_pos c4] at H
  exact absurd H (by simp)
 ·rw [if_neg c4] at H
  have c4b0 : (a2 == 0) = false := beq_eq_false_iff_ne.mpr c4
  have c4b1 : (a2 != 0) = true := bne_iff_ne.mpr c4
  by_cases c5 : a2 ≤ a0
  ·rw [if_pos c5] at H
   exact absurd H (by simp)
  ·rw [if_neg c5] at H
   have c5b0 : decide (a2 ≤ a0) = false := decide_eq_false c5
   clear c5
   by_cases c6 : a0 = 0
   ·rw [if_pos c6] at H
    have c6b0 : (a0 == 0) = true := beq_iff_eq.mpr c6
    have c6b1 : (a0 != 0) = false := bne_eq_false_iff_eq.mpr c6
    clear c6
    simp only [Option.some.injEq, Prod.mk.injEq] at H
    obtain ⟨rfl, rfl⟩ := H
    go_enter Try.func41, Try.ntmps41
    go_wp2
    repeat (go_quiet (fail); try go_wp2)
    go_ret2
    exact ⟨by first | rfl | (simp; done) | (simp [*]; done), by repeat (first | exact Drawn0.refl _ | apply Drawn0.step)⟩
   ·rw [if_neg c6] at H
    have c6b0 : (a0 == 0) = false := beq_eq_false_iff_ne.mpr c6
    have c6b1 : (a0 != 0) = true := bne_iff_ne.mpr c6
    replace H := Option.bind_eq_some_iff.mp H
    obtain ⟨t102, A70, H⟩ := H
    replace H : (if 0 ≤ (IntKind.u64.wrap (t102)) then (if 0 ≤ (IntKind.u64.wrap (64 - (IntKind.u64.wrap (t102)))) then (if ((shl .u64 a2 (IntKind.u64.wrap (t102))) / 4294967296) = 0 then (none) else (bits_Div64.l0 k (shl .u64 a2 (IntKind.u64.wrap (t102))) (IntKind.u64.wrap (t102)) ((shl .u64 a2 (IntKind.u64.wrap (t102))) / 4294967296) (Go.bits .and .u64 (shl .u64 a2 (IntKind.u64.wrap (t102))) 4294967295) (Go.bits .or .u64 (shl .u64 a0 (IntKind.u64.wrap (t102))) (shr .u64 a1 (IntKind.u64.wrap (64 - (IntKind.u64.wrap (t102)))))) ((shl .u64 a1 (IntKind.u64.wrap (t102))) / 4294967296) (Go.bits .and .u64 (shl .u64 a1 (IntKind.u64.wrap (t102))) 4294967295) (IntKind.u64.wrap (Int.tdiv (Go.bits .or .u64 (shl .u64 a0 (IntKind.u64.wrap (t102))) (shr .u64 a1 (IntKind.u64.wrap (64 - (IntKind.u64.wrap (t102)))))) ((shl .u64 a2 (IntKind.u64.wrap (t102))) / 4294967296))) (IntKind.u64.wrap ((Go.bits .or .u64 (shl .u64 a0 (IntKind.u64.wrap (t102))) (shr .u64 a1 (IntKind.u64.wrap (64 - (IntKind.u64.wrap (t102)))))) - (IntKind.u64.wrap ((IntKind.u64.wrap (Int.tdiv (Go.bits .or .u64 (shl .u64 a0 (IntKind.u64.wrap (t102))) (shr .u64 a1 (IntKind.u64.wrap (64 - (IntKind.u64.wrap (t102)))))) ((shl .u64 a2 (IntKind.u64.wrap (t102))) / 4294967296))) * ((shl .u64 a2 (IntKind.u64.wrap (t102))) / 4294967296))))))) else (none)) else (none)) = some (r1, r2) := H
    have A7 := Aside0.mk A70
    clear A70
    obtain ⟨ji8, hji8⟩ : ∃ j_ : Int, (IntKind.u64.wrap (t102)) = j_ := ⟨_, rfl⟩
    replace H : (if 0 ≤ (ji8) then (if 0 ≤ (IntKind.u64.wrap (64 - (ji8))) then (if ((shl .u64 a2 (ji8)) / 4294967296) = 0 then (none) else (bits_Div64.l0 k (shl .u64 a2 (ji8)) ji8 ((shl .u64 a2 (ji8)) / 4294967296) (Go.bits .and .u64 (shl .u64 a2 (ji8)) 4294967295) (Go.bits .or .u64 (shl .u64 a0 (ji8)) (shr .u64 a1 (IntKind.u64.wrap (64 - (ji8))))) ((shl .u64 a1 (ji8)) / 4294967296) (Go.bits .and .u64 (shl .u64 a1 (ji8)) 4294967295) (IntKind.u64.wrap (Int.tdiv (Go.bits .or .u64 (shl .u64 a0 (ji8)) (shr .u64 a1 (IntKind.u64.wrap (64 - (ji8))))) ((shl .u64 a2 (ji8)) / 4294967296))) (IntKind.u64.wrap ((Go.bits .or .u64 (shl .u64 a0 (ji8)) (shr .u64 a1 (IntKind.u64.wrap (64 - (ji8))))) - (IntKind.u64.wrap ((IntKind.u64.wrap (Int.tdiv (Go.bits .or .u64 (shl .u64 a0 (ji8)) (shr .u64 a1 (IntKind.u64.wrap (64 - (ji8))))) ((shl .u64 a2 (ji8)) / 4294967296))) * ((shl .u64 a2 (ji8)) / 4294967296))))))) else (none)) else (none)) = some (r1, r2) := by first | (rw [hji8] at H; exact H) | (simp only [hji8] at H ⊢; exact H)
    (try rw [hji8] at A7)
    by_cases c9 : 0 ≤ (ji8)
    ·rw [if_pos c9] at H
     have c9b0 := eq_true c9
     have c9b1 : decide (0 ≤ (ji8)) = true := decide_eq_true c9
     clear c9
     obtain ⟨ji10, hji10⟩ : ∃ j_ : Int, (shl .u64 a2 (ji8)) = j_ := ⟨_, rfl⟩
     replace H : (if 0 ≤ (IntKind.u64.wrap (64 - (ji8))) then (if ((ji10) / 4294967296) = 0 then (none) else (bits_Div64.l0 k ji10 ji8 ((ji10) / 4294967296) (Go.bits .and .u64 (ji10) 4294967295) (Go.bits .or .u64 (shl .u64 a0 (ji8)) (shr .u64 a1 (IntKind.u64.wrap (64 - (ji8))))) ((shl .u64 a1 (ji8)) / 4294967296) (Go.bits .and .u64 (shl .u64 a1 (ji8)) 4294967295) (IntKind.u64.wrap (Int.tdiv (Go.bits .or .u64 (shl .u64 a0 (ji8)) (shr .u64 a1 (IntKind.u64.wrap (64 - (ji8))))) ((ji10) / 4294967296))) (IntKind.u64.wrap ((Go.bits .or .u64 (shl .u64 a0 (ji8)) (shr .u64 a1 (IntKind.u64.wrap (64 - (ji8))))) - (IntKind.u64.wrap ((IntKind.u64.wrap (Int.tdiv (Go.bits .or .u64 (shl .u64 a0 (ji8)) (shr .u64 a1 (IntKind.u64.wrap (64 - (ji8))))) ((ji10) / 4294967296))) * ((ji10) / 4294967296))))))) else (none)) = some (r1, r2) := by first | (rw [hji10] at H; exact H) | (simp only [hji10] at H ⊢; exact H)
     (try rw [hji10] at A7)
     have hji10_ : (IntKind.u64.wrap (a2 * 2 ^ min (ji8).toNat 64)) = ji10 := hji10
     have hji10z : (ji8) ≤ 64 → (IntKind.u64.wrap (a2 * 2 ^ (ji8).toNat)) = ji10 := shl_small hji10
     have c11b0 := eq_true (of_decide_eq_true (by first | (with_reducible assumption) | assumption) : 0 ≤ (ji8))
     obtain ⟨ji12, hji12⟩ : ∃ j_ : Int, (shl .u64 a0 (ji8)) = j_ := ⟨_, rfl⟩
     replace H : (if 0 ≤ (IntKind.u64.wrap (64 - (ji8))) then (if ((ji10) / 4294967296) = 0 then (none) else (bits_Div64.l0 k ji10 ji8 ((ji10) / 4294967296) (Go.bits .and .u64 (ji10) 4294967295) (Go.bits .or .u64 (ji12) (shr .u64 a1 (IntKind.u64.wrap (64 - (ji8))))) ((shl .u64 a1 (ji8)) / 4294967296) (Go.bits .and .u64 (shl .u64 a1 (ji8)) 4294967295) (IntKind.u64.wrap (Int.tdiv (Go.bits .or .u64 (ji12) (shr .u64 a1 (IntKind.u64.wrap (64 - (ji8))))) ((ji10) / 4294967296))) (IntKind.u64.wrap ((Go.bits .or .u64 (ji12) (shr .u64 a1 (IntKind.u64.wrap (64 - (ji8))))) - (IntKind.u64.wrap ((IntKind.u64.wrap (Int.tdiv (Go.bits .or .u64 (ji12) (shr .u64 a1 (IntKind.u64.wrap (64 - (ji8))))) ((ji10) / 4294967296))) * ((ji10) / 4294967296))))))) else (none)) = some (r1, r2) := by first | (rw [hji12] at H; exact H) | (simp only [hji12] at H ⊢; exact H)
     (try rw [hji12] at A7)
     have hji12_ : (IntKind.u64.wrap (a0 * 2 ^ min (ji8).toNat 64)) = ji12 := hji12
     have hji12z : (ji8) ≤ 64 → (IntKind.u64.wrap (a0 * 2 ^ (ji8).toNat)) = ji12 := shl_small hji12
     obtain ⟨ji13, hji13⟩ : ∃ j_ : Int, (IntKind.u64.wrap (64 - (ji8))) = j_ := ⟨_, rfl⟩
     replace H : (if 0 ≤ (ji13) then (if ((ji10) / 4294967296) = 0 then (none) else (bits_Div64.l0 k ji10 ji8 ((ji10) / 4294967296) (Go.bits .and .u64 (ji10) 4294967295) (Go.bits .or .u64 (ji12) (shr .u64 a1 (ji13))) ((shl .u64 a1 (ji8)) / 4294967296) (Go.bits .and .u64 (shl .u64 a1 (ji8)) 4294967295) (IntKind.u64.wrap (Int.tdiv (Go.bits .or .u64 (ji12) (shr .u64 a1 (ji13))) ((ji10) / 4294967296))) (IntKind.u64.wrap ((Go.bits .or .u64 (ji12) (shr .u64 a1 (ji13))) - (IntKind.u64.wrap ((IntKind.u64.wrap (Int.tdiv (Go.bits .or .u64 (ji12) (shr .u64 a1 (ji13))) ((ji10) / 4294967296))) * ((ji10) / 4294967296))))))) else (none)) = some (r1, r2) := by first | (rw [hji13] at H; exact H) | (simp only [hji13] at H ⊢; exact H)
     (try rw [hji13] at A7)
     by_cases c14 : 0 ≤ (ji13)
     ·rw [if_pos c14] at H
      have c14b0 := eq_true c14
      have c14b1 : decide (0 ≤ (ji13)) = true := decide_eq_true c14
      clear c14
      obtain ⟨ji15, hji15⟩ : ∃ j_ : Int, (shr .u64 a1 (ji13)) = j_ := ⟨_, rfl⟩
      replace H : (if ((ji10) / 4294967296) = 0 then (none) else (bits_Div64.l0 k ji10 ji8 ((ji10) / 4294967296) (Go.bits .and .u64 (ji10) 4294967295) (Go.bits .or .u64 (ji12) (ji15)) ((shl .u64 a1 (ji8)) / 4294967296) (Go.bits .and .u64 (shl .u64 a1 (ji8)) 4294967295) (IntKind.u64.wrap (Int.tdiv (Go.bits .or .u64 (ji12) (ji15)) ((ji10) / 4294967296))) (IntKind.u64.wrap ((Go.bits .or .u64 (ji12) (ji15)) - (IntKind.u64.wrap ((IntKind.u64.wrap (Int.tdiv (Go.bits .or .u64 (ji12) (ji15)) ((ji10) / 4294967296))) * ((ji10) / 4294967296))))))) = some (r1, r2) := by first | (rw [hji15] at H; exact H) | (simp only [hji15] at H ⊢; exact H)
      (try rw [hji15] at A7)
      have hji15_ : (a1 / 2 ^ min (ji13).toNat 64) = ji15 := hji15
      have hji15z : (ji13) ≤ 64 → (a1 / 2 ^ (ji13).toNat) = ji15 := shr_small hji15
      have c16b0 := eq_true (of_decide_eq_true (by first | (with_reducible assumption) | assumption) : 0 ≤ (ji8))
      obtain ⟨ji17, hji17⟩ : ∃ j_ : Int, (shl .u64 a1 (ji8)) = j_ := ⟨_, rfl⟩
      replace H : (if ((ji10) / 4294967296) = 0 then (none) else (bits_Div64.l0 k ji10 ji8 ((ji10) / 4294967296) (Go.bits .and .u64 (ji10) 4294967295) (Go.bits .or .u64 (ji12) (ji15)) ((ji17) / 4294967296) (Go.bits .and .u64 (ji17) 4294967295) (IntKind.u64.wrap (Int.tdiv (Go.bits .or .u64 (ji12) (ji15)) ((ji10) / 4294967296))) (IntKind.u64.wrap ((Go.bits .or .u64 (ji12) (ji15)) - (IntKind.u64.wrap ((IntKind.u64.wrap (Int.tdiv (Go.bits .or .u64 (ji12) (ji15)) ((ji10) / 4294967296))) * ((ji10) / 4294967296))))))) = some (r1, r2) := by first | (rw [hji17] at H; exact H) | (simp only [hji17] at H ⊢; exact H)
      (try rw [hji17] at A7)
      have hji17_ : (IntKind.u64.wrap (a1 * 2 ^ min (ji8).toNat 64)) = ji17 := hji17
      have hji17z : (ji8) ≤ 64 → (IntKind.u64.wrap (a1 * 2 ^ (ji8).toNat)) = ji17 := shl_small hji17
      by_cases c18 : ((ji10) / 4294967296) = 0
      ·rw [if_pos c18] at H
       exact absurd H (by simp)
      ·rw [if_neg c18] at H
       have c18b0 : (((ji10) / 4294967296) == 0) = false := beq_eq_false_iff_ne.mpr c18
       have c18b1 : (((ji10) / 4294967296) != 0) = true := bne_iff_ne.mpr c18
       have HC19 := Aside0.mk H
       clear H
       go_enter Try.func41, Try.ntmps41
       go_upto_block 0 with (first | (go_at_call 42; (with_reducible refine (bits_LeadingZeros64.calls a2 t102 _ A7.out).mono ?_); rintro e w' ⟨rfl, ⟨nd, rfl⟩⟩; (try first | exact ⟨rfl, _, World.drewN_drewN _ _ _⟩ | exact ⟨rfl, _, Eq.trans (World.drewN_drewN _ _ _) (congrArg (World.drewN _) (Nat.add_assoc _ _ _))⟩)))
       repeat (go_quiet (first | (go_at_call 42; (with_reducible refine (bits_LeadingZeros64.calls a2 t102 _ A7.out).mono ?_); rintro e w' ⟨rfl, ⟨nd, rfl⟩⟩; (try first | exact ⟨rfl, _, World.drewN_drewN _ _ _⟩ | exact ⟨rfl, _, Eq.trans (World.drewN_drewN _ _ _) (congrArg (World.drewN _) (Nat.add_assoc _ _ _))⟩))); go_upto_block 0 with (first | (go_at_call 42; (with_reducible refine (bits_LeadingZeros64.calls a2 t102 _ A7.out).mono ?_); rintro e w' ⟨rfl, ⟨nd, rfl⟩⟩; (try first | exact ⟨rfl, _, World.drewN_drewN _ _ _⟩ | exact ⟨rfl, _, Eq.trans (World.drewN_drewN _ _ _) (congrArg (World.drewN _) (Nat.add_assoc _ _ _))⟩))))
       (try simp only [Act.put, List.setIfInBounds_toArray, List.set_cons_zero, List.set_cons_succ])
       go_cut [15] (fun v15 wc => ∃ (kq : Nat) (x15_18 : Int), v15 = .int .u64 x15_18 ∧ Aside0 (bits_Div64.j2 kq ji10 ji8 ((ji10) / 4294967296) (Go.bits .and .u64 (ji10) 4294967295) (Go.bits .or .u64 (ji12) (ji15)) ((ji17) / 4294967296) (Go.bits .and .u64 (ji17) 4294967295) x15_18 = some (r1, r2)) ∧ Aside0 (kq ≤ k) ∧ Drawn0 w wc)
       case first =>
        have H := HC19.out
        clear HC19
        have H' := Aside0.mk H
        clear H
        go_wp2
        repeat (go_quiet (fail); try go_wp2)
        go_loopg [15, 16] k (fun kq v15 v16 w' => ∃ (x15_1 : Int) (x16_1 : Int), v15 = .int .u64 x15_1 ∧ v16 = .int .u64 x16_1 ∧ Aside0 (bits_Div64.l0 kq ji10 ji8 ((ji10) / 4294967296) (Go.bits .and .u64 (ji10) 4294967295) (Go.bits .or .u64 (ji12) (ji15)) ((ji17) / 4294967296) (Go.bits .and .u64 (ji17) 4294967295) x15_1 x16_1 = some (r1, r2)) ∧ Aside0 (kq ≤ k) ∧ Drawn0 w w')
        case atStart => exact ⟨(IntKind.u64.wrap (Int.tdiv (Go.bits .or .u64 (ji12) (ji15)) ((ji10) / 4294967296))), (IntKind.u64.wrap ((Go.bits .or .u64 (ji12) (ji15)) - (IntKind.u64.wrap ((IntKind.u64.wrap (Int.tdiv (Go.bits .or .u64 (ji12) (ji15)) ((ji10) / 4294967296))) * ((ji10) / 4294967296))))), (by first | rfl | (simp; done) | (simp only [← hji10, ← hji12, ← hji15] <;> (first | rfl | simp)) | (simp [*]; done)), (by first | rfl | (simp; done) | (simp only [← hji10, ← hji12, ← hji15] <;> (first | rfl | simp)) | (simp [*]; done)), H', ⟨Nat.le_refl _⟩, by repeat (first | exact Drawn0.refl _ | apply Drawn0.step)⟩
        case round =>
         clear H'
         try clear c1
         try clear p2
         try clear c4
         try clear c4b0
         try clear c4b1
         try clear c5
         try clear c5b0
         try clear c6
         try clear c6b0
         try clear c6b1
         try clear c9
         try clear c9b0
         try clear c9b1
         try clear c11
         try clear c11b0
         try clear c14
         try clear c14b0
         try clear c14b1
         try clear c16
         try clear c16b0
         try clear c18
         try clear c18b0
         try clear c18b1
         obtain ⟨x15_1, x16_1, rfl, rfl, HA, HK1, ⟨m1, rfl⟩⟩ := hrel
         cases gk with
         | zero => exact absurd HA.out (by simp [bits_Div64.l0])
         | succ k1 =>
          have H := HA.out
          clear HA
          simp only [bits_Div64.l0] at H
          have HC20 := Aside0.mk H
          clear H
          go_upto_region 17 with (fail)
          repeat (go_quiet (fail); go_upto_region 17 with (fail))
          go_cut [78] (fun v78 wc => ∃ (kq : Nat) (x78_19 : Bool), v78 = .bool x78_19 ∧ Aside0 (bits_Div64.j1 kq ji10 ji8 ((ji10) / 4294967296) (Go.bits .and .u64 (ji10) 4294967295) (Go.bits .or .u64 (ji12) (ji15)) ((ji17) / 4294967296) (Go.bits .and .u64 (ji17) 4294967295) x15_1 x16_1 x78_19 = some (r1, r2)) ∧ Aside0 (kq ≤ k1) ∧ Drawn0 w wc)
          case first =>
           have H := HC20.out
           clear HC20
           by_cases c21 : x15_1 ≥ 4294967296
           ·rw [if_pos c21] at H
            have c21b0 : decide (4294967296 ≤ x15_1) = true := decide_eq_true c21
            clear c21
            (first | rw [c21b0] | (simp only [i64_w, i32_w]; rw [c21b0]) | skip)
            have H' := Aside0.mk H
            clear H
            go_wp2
            repeat (go_quiet (fail); try go_wp2)
            go_meet
            case rel => exact ⟨_, (true), (by first | rfl | (simp; done) | (simp [*]; done)), H', ⟨by have := HK1.out; first | omega | exact Nat.le_refl _⟩, by repeat (first | exact Drawn0.refl _ | apply Drawn0.step)⟩
           ·rw [if_neg c21] at H
            have c21b0 : decide (4294967296 ≤ x15_1) = false := decide_eq_false c21
            clear c21
            (first | rw [c21b0] | (simp only [i64_w, i32_w]; rw [c21b0]) | skip)
            have H' := Aside0.mk H
            clear H
            go_wp2
            repeat (go_quiet (fail); try go_wp2)
            go_meet
            case rel => exact ⟨_, (decide ((IntKind.u64.wrap (x15_1 * (Go.bits .and .u64 (ji10) 4294967295))) > (IntKind.u64.wrap ((IntKind.u64.wrap (4294967296 * x16_1)) + ((ji17) / 4294967296))))), (by first | rfl | (simp; done) | (simp only [← hji10, ← hji17] <;> (first | rfl | simp)) | (simp [*]; done)), H', ⟨by have := HK1.out; first | omega | exact Nat.le_refl _⟩, by repeat (first | exact Drawn0.refl _ | apply Drawn0.step)⟩
          case rest =>
           clear HC20
           try clear c1
           try clear c2
           try clear p2
           try clear c4
           try clear c4b0
           try clear c4b1
           try clear c5
           try clear c5b0
           try clear c6
           try clear c6b0
           try clear c6b1
           try clear c9
           try clear c9b0
           try clear c9b1
           try clear c11
           try clear c11b0
           try clear c14
           try clear c14b0
           try clear c14b1
           try clear c16
           try clear c16b0
           try clear c18
           try clear c18b0
           try clear c18b1
           try clear c21
           try clear c21b0
           try clear p2
           obtain ⟨kq, x78_19, rfl, HA, HJ19, ⟨mc19, rfl⟩⟩ := hcut
           cases kq with
           | zero => exact absurd HA.out (by simp [bits_Div64.j1])
           | succ kj19 =>
            have H := HA.out
            clear HA
            simp only [bits_Div64.j1] at H
            by_cases c22 : x78_19 = true
            ·subst c22
             have H1 : (if (IntKind.u64.wrap (x16_1 + ((ji10) / 4294967296))) ≥ 4294967296 then (bits_Div64.j2 kj19 ji10 ji8 ((ji10) / 4294967296) (Go.bits .and .u64 (ji10) 4294967295) (Go.bits .or .u64 (ji12) (ji15)) ((ji17) / 4294967296) (Go.bits .and .u64 (ji17) 4294967295) (IntKind.u64.wrap (x15_1 - 1))) else (bits_Div64.l0 kj19 ji10 ji8 ((ji10) / 4294967296) (Go.bits .and .u64 (ji10) 4294967295) (Go.bits .or .u64 (ji12) (ji15)) ((ji17) / 4294967296) (Go.bits .and .u64 (ji17) 4294967295) (IntKind.u64.wrap (x15_1 - 1)) (IntKind.u64.wrap (x16_1 + ((ji10) / 4294967296))))) = some (r1, r2) := by rw [if_pos rfl] at H; exact H
             clear H
             have H := H1
             clear H1
             by_cases c23 : (IntKind.u64.wrap (x16_1 + ((ji10) / 4294967296))) ≥ 4294967296
             ·rw [if_pos c23] at H
              have c23b0 : decide (4294967296 ≤ (IntKind.u64.wrap (x16_1 + ((ji10) / 4294967296)))) = true := decide_eq_true c23
              clear c23
              have H' := Aside0.mk H
              clear H
              go_wp2
              repeat (go_quiet (fail); try go_wp2)
              go_meet
              case rel => exact ⟨_, (IntKind.u64.wrap (x15_1 - 1)), (by first | rfl | (simp; done) | (simp [*]; done)), H', ⟨by have := HK1.out; have := HJ19.out; first | omega | exact Nat.le_refl _⟩, by repeat (first | exact Drawn0.refl _ | apply Drawn0.step)⟩
             ·rw [if_neg c23] at H
              have c23b0 : decide (4294967296 ≤ (IntKind.u64.wrap (x16_1 + ((ji10) / 4294967296)))) = false := decide_eq_false c23
              clear c23
              have H' := Aside0.mk H
              clear H
              go_wp2
              repeat (go_quiet (fail); try go_wp2)
              go_roundg kj19
              case measure => have := HK1.out; have := HJ19.out; omega
              case rel => exact ⟨(IntKind.u64.wrap (x15_1 - 1)), (IntKind.u64.wrap (x16_1 + ((ji10) / 4294967296))), (by first | rfl | (simp; done) | (simp [*]; done)), (by first | rfl | (simp; done) | (simp only [← hji10] <;> (first | rfl | simp)) | (simp [*]; done)), H', ⟨by have := HK1.out; have := HJ19.out; omega⟩, by repeat (first | exact Drawn0.refl _ | apply Drawn0.step)⟩
            ·replace c22 := Bool.eq_false_iff.mpr c22
             subst c22
             have H1 : (bits_Div64.j2 kj19 ji10 ji8 ((ji10) / 4294967296) (Go.bits .and .u64 (ji10) 4294967295) (Go.bits .or .u64 (ji12) (ji15)) ((ji17) / 4294967296) (Go.bits .and .u64 (ji17) 4294967295) x15_1) = some (r1, r2) := by rw [if_neg (show ¬ (false = true) by decide)] at H; exact H
             clear H
             have H := H1
             clear H1
             have H' := Aside0.mk H
             clear H
             go_wp2
             repeat (go_quiet (fail); try go_wp2)
             go_meet
             case rel => exact ⟨_, (x15_1), (by first | rfl | (simp; done) | (simp [*]; done)), H', ⟨by have := HK1.out; have := HJ19.out; first | omega | exact Nat.le_refl _⟩, by repeat (first | exact Drawn0.refl _ | apply Drawn0.step)⟩
       case rest =>
        clear HC19
        try clear c1
        try clear c2
        try clear p2
        try clear c4
        try clear c4b0
        try clear c4b1
        try clear c5
        try clear c5b0
        try clear c6
        try clear c6b0
        try clear c6b1
        try clear c9
        try clear c9b0
        try clear c9b1
        try clear c11
        try clear c11b0
        try clear c14
        try clear c14b0
        try clear c14b1
        try clear c16
        try clear c16b0
        try clear c18
        try clear c18b0
        try clear c18b1
        try clear c19
        try clear c21
        try clear c21b0
        try clear c22
        try clear c23
        try clear c23b0
        try clear p2
        obtain ⟨kq, x15_18, rfl, HA, HJ18, ⟨mc18, rfl⟩⟩ := hcut
        cases kq with
        | zero => exact absurd HA.out (by simp [bits_Div64.j2])
        | succ kj18 =>
         have H := HA.out
         clear HA
         simp only [bits_Div64.j2] at H
         by_cases c24 : ((ji10) / 4294967296) = 0
         ·rw [if_pos c24] at H
          exact absurd H (by simp)
         ·rw [if_neg c24] at H
          have c24b0 : (((ji10) / 4294967296) == 0) = false := beq_eq_false_iff_ne.mpr c24
          have c24b1 : (((ji10) / 4294967296) != 0) = true := bne_iff_ne.mpr c24
          have H' := Aside0.mk H
          clear H
          go_wp2
          repeat (go_quiet (fail); try go_wp2)
          go_loopg [16, 18] kj18 (fun kq v16 v18 w' => ∃ (x16_2 : Int) (x18_2 : Int), v16 = .int .u64 x16_2 ∧ v18 = .int .u64 x18_2 ∧ Aside0 (bits_Div64.l1 kq ji10 ji8 ((ji10) / 4294967296) (Go.bits .and .u64 (ji10) 4294967295) (Go.bits .and .u64 (ji17) 4294967295) x15_18 x16_2 (IntKind.u64.wrap ((IntKind.u64.wrap ((IntKind.u64.wrap ((Go.bits .or .u64 (ji12) (ji15)) * 4294967296)) + ((ji17) / 4294967296))) - (IntKind.u64.wrap (x15_18 * ji10)))) x18_2 = some (r1, r2)) ∧ Aside0 (kq ≤ kj18) ∧ Drawn0 w w')
          case atStart => exact ⟨(IntKind.u64.wrap ((IntKind.u64.wrap ((IntKind.u64.wrap ((IntKind.u64.wrap ((Go.bits .or .u64 (ji12) (ji15)) * 4294967296)) + ((ji17) / 4294967296))) - (IntKind.u64.wrap (x15_18 * ji10)))) - (IntKind.u64.wrap ((IntKind.u64.wrap (Int.tdiv (IntKind.u64.wrap ((IntKind.u64.wrap ((IntKind.u64.wrap ((Go.bits .or .u64 (ji12) (ji15)) * 4294967296)) + ((ji17) / 4294967296))) - (IntKind.u64.wrap (x15_18 * ji10)))) ((ji10) / 4294967296))) * ((ji10) / 4294967296))))), (IntKind.u64.wrap (Int.tdiv (IntKind.u64.wrap ((IntKind.u64.wrap ((IntKind.u64.wrap ((Go.bits .or .u64 (ji12) (ji15)) * 4294967296)) + ((ji17) / 4294967296))) - (IntKind.u64.wrap (x15_18 * ji10)))) ((ji10) / 4294967296))), (by first | rfl | (simp; done) | (simp only [← hji10, ← hji12, ← hji15, ← hji17] <;> (first | rfl | simp)) | (simp [*]; done)), (by first | rfl | (simp; done) | (simp only [← hji10, ← hji12, ← hji15, ← hji17] <;> (first | rfl | simp)) | (simp [*]; done)), H', ⟨Nat.le_refl _⟩, by repeat (first | exact Drawn0.refl _ | apply Drawn0.step)⟩
          case round =>
           clear H'
           try clear c1
           try clear c2
           try clear p2
           try clear c4
           try clear c4b0
           try clear c4b1
           try clear c5
           try clear c5b0
           try clear c6
           try clear c6b0
           try clear c6b1
           try clear c9
           try clear c9b0
           try clear c9b1
           try clear c11
           try clear c11b0
           try clear c14
           try clear c14b0
           try clear c14b1
           try clear c16
           try clear c16b0
           try clear c18
           try clear c18b0
           try clear c18b1
           try clear c19
           try clear c21
           try clear c21b0
           try clear c22
           try clear c23
           try clear c23b0
           try clear c24
           try clear c24b0
           try clear c24b1
           try clear p2
           obtain ⟨x16_2, x18_2, rfl, rfl, HA, HK2, ⟨m2, rfl⟩⟩ := hrel
           cases gk with
           | zero => exact absurd HA.out (by simp [bits_Div64.l1])
           | succ k2 =>
            have H := HA.out
            clear HA
            simp only [bits_Div64.l1] at H
            have HC25 := Aside0.mk H
            clear H
            go_upto_region 24 with (fail)
            repeat (go_quiet (fail); go_upto_region 24 with (fail))
            go_cut [113] (fun v113 wc => ∃ (kq : Nat) (x113_24 : Bool), v113 = .bool x113_24 ∧ Aside0 (bits_Div64.j4 kq ji10 ji8 ((ji10) / 4294967296) (Go.bits .and .u64 (ji10) 4294967295) (Go.bits .and .u64 (ji17) 4294967295) x15_18 x16_2 (IntKind.u64.wrap ((IntKind.u64.wrap ((IntKind.u64.wrap ((Go.bits .or .u64 (ji12) (ji15)) * 4294967296)) + ((ji17) / 4294967296))) - (IntKind.u64.wrap (x15_18 * ji10)))) x18_2 x113_24 = some (r1, r2)) ∧ Aside0 (kq ≤ k2) ∧ Drawn0 w wc)
            case first =>
             have H := HC25.out
             clear HC25
             by_cases c26 : x18_2 ≥ 4294967296
             ·rw [if_pos c26] at H
              have c26b0 : decide (4294967296 ≤ x18_2) = true := decide_eq_true c26
              clear c26
              (first | rw [c26b0] | (simp only [i64_w, i32_w]; rw [c26b0]) | skip)
              have H' := Aside0.mk H
              clear H
              go_wp2
              repeat (go_quiet (fail); try go_wp2)
              go_meet
              case rel => exact ⟨_, (true), (by first | rfl | (simp; done) | (simp [*]; done)), H', ⟨by have := HJ18.out; have := HK2.out; first | omega | exact Nat.le_refl _⟩, by repeat (first | exact Drawn0.refl _ | apply Drawn0.step)⟩
             ·rw [if_neg c26] at H
              have c26b0 : decide (4294967296 ≤ x18_2) = false := decide_eq_false c26
              clear c26
              (first | rw [c26b0] | (simp only [i64_w, i32_w]; rw [c26b0]) | skip)
              have H' := Aside0.mk H
              clear H
              go_wp2
              repeat (go_quiet (fail); try go_wp2)
              go_meet
              case rel => exact ⟨_, (decide ((IntKind.u64.wrap (x18_2 * (Go.bits .and .u64 (ji10) 4294967295))) > (IntKind.u64.wrap ((IntKind.u64.wrap (4294967296 * x16_2)) + (Go.bits .and .u64 (ji17) 4294967295))))), (by first | rfl | (simp; done) | (simp only [← hji10, ← hji17] <;> (first | rfl | simp)) | (simp [*]; done)), H', ⟨by have := HJ18.out; have := HK2.out; first | omega | exact Nat.le_refl _⟩, by repeat (first | exact Drawn0.refl _ | apply Drawn0.step)⟩
            case rest =>
             clear HC25
             try clear c1
             try clear c2
             try clear p2
             try clear c4
             try clear c4b0
             try clear c4b1
             try clear c5
             try clear c5b0
             try clear c6
             try clear c6b0
             try clear c6b1
             try clear c9
             try clear c9b0
             try clear c9b1
             try clear c11
             try clear c11b0
             try clear c14
             try clear c14b0
             try clear c14b1
             try clear c16
             try clear c16b0
             try clear c18
             try clear c18b0
             try clear c18b1
             try clear c19
             try clear c21
             try clear c21b0
             try clear c22
             try clear c23
             try clear c23b0
             try clear c24
             try clear c24b0
             try clear c24b1
             try clear c26
             try clear c26b0
             try clear p2
             obtain ⟨kq, x113_24, rfl, HA, HJ24, ⟨mc24, rfl⟩⟩ := hcut
             cases kq with
             | zero => exact absurd HA.out (by simp [bits_Div64.j4])
             | succ kj24 =>
              have H := HA.out
              clear HA
              simp only [bits_Div64.j4] at H
              by_cases c27 : x113_24 = true
              ·subst c27
               have H1 : (if (IntKind.u64.wrap (x16_2 + ((ji10) / 4294967296))) ≥ 4294967296 then (if 0 ≤ ji8 then (some (IntKind.u64.wrap ((IntKind.u64.wrap (x15_18 * 4294967296)) + (IntKind.u64.wrap (x18_2 - 1))), shr .u64 (IntKind.u64.wrap ((IntKind.u64.wrap ((IntKind.u64.wrap ((IntKind.u64.wrap ((IntKind.u64.wrap ((IntKind.u64.wrap ((Go.bits .or .u64 (ji12) (ji15)) * 4294967296)) + ((ji17) / 4294967296))) - (IntKind.u64.wrap (x15_18 * ji10)))) * 4294967296)) + (Go.bits .and .u64 (ji17) 4294967295))) - (IntKind.u64.wrap ((IntKind.u64.wrap (x18_2 - 1)) * ji10)))) ji8)) else (none)) else (bits_Div64.l1 kj24 ji10 ji8 ((ji10) / 4294967296) (Go.bits .and .u64 (ji10) 4294967295) (Go.bits .and .u64 (ji17) 4294967295) x15_18 (IntKind.u64.wrap (x16_2 + ((ji10) / 4294967296))) (IntKind.u64.wrap ((IntKind.u64.wrap ((IntKind.u64.wrap ((Go.bits .or .u64 (ji12) (ji15)) * 4294967296)) + ((ji17) / 4294967296))) - (IntKind.u64.wrap (x15_18 * ji10)))) (IntKind.u64.wrap (x18_2 - 1)))) = some (r1, r2) := by rw [if_pos rfl] at H; exact H
               clear H
               have H := H1
               clear H1
               by_cases c28 : (IntKind.u64.wrap (x16_2 + ((ji10) / 4294967296))) ≥ 4294967296
               ·rw [if_pos c28] at H
                have c28b0 : decide (4294967296 ≤ (IntKind.u64.wrap (x16_2 + ((ji10) / 4294967296)))) = true := decide_eq_true c28
                clear c28
                by_cases c29 : 0 ≤ ji8
                ·rw [if_pos c29] at H
                 have c29b0 := eq_true c29
                 have c29b1 : decide (0 ≤ ji8) = true := decide_eq_true c29
                 clear c29
                 obtain ⟨ji30, hji30⟩ : ∃ j_ : Int, (shr .u64 (IntKind.u64.wrap ((IntKind.u64.wrap ((IntKind.u64.wrap ((IntKind.u64.wrap ((IntKind.u64.wrap ((IntKind.u64.wrap ((Go.bits .or .u64 (ji12) (ji15)) * 4294967296)) + ((ji17) / 4294967296))) - (IntKind.u64.wrap (x15_18 * ji10)))) * 4294967296)) + (Go.bits .and .u64 (ji17) 4294967295))) - (IntKind.u64.wrap ((IntKind.u64.wrap (x18_2 - 1)) * ji10)))) ji8) = j_ := ⟨_, rfl⟩
                 replace H : (some (IntKind.u64.wrap ((IntKind.u64.wrap (x15_18 * 4294967296)) + (IntKind.u64.wrap (x18_2 - 1))), ji30)) = some (r1, r2) := by first | (rw [hji30] at H; exact H) | (simp only [hji30] at H ⊢; exact H)
                 have hji30_ : ((IntKind.u64.wrap ((IntKind.u64.wrap ((IntKind.u64.wrap ((IntKind.u64.wrap ((IntKind.u64.wrap ((IntKind.u64.wrap ((Go.bits .or .u64 (ji12) (ji15)) * 4294967296)) + ((ji17) / 4294967296))) - (IntKind.u64.wrap (x15_18 * ji10)))) * 4294967296)) + (Go.bits .and .u64 (ji17) 4294967295))) - (IntKind.u64.wrap ((IntKind.u64.wrap (x18_2 - 1)) * ji10)))) / 2 ^ min ji8.toNat 64) = ji30 := hji30
                 have hji30z : ji8 ≤ 64 → ((IntKind.u64.wrap ((IntKind.u64.wrap ((IntKind.u64.wrap ((IntKind.u64.wrap ((IntKind.u64.wrap ((IntKind.u64.wrap ((Go.bits .or .u64 (ji12) (ji15)) * 4294967296)) + ((ji17) / 4294967296))) - (IntKind.u64.wrap (x15_18 * ji10)))) * 4294967296)) + (Go.bits .and .u64 (ji17) 4294967295))) - (IntKind.u64.wrap ((IntKind.u64.wrap (x18_2 - 1)) * ji10)))) / 2 ^ ji8.toNat) = ji30 := shr_small hji30
                 simp only [Option.some.injEq, Prod.mk.injEq] at H
                 obtain ⟨rfl, rfl⟩ := H
                 go_wp2
                 repeat (go_quiet (fail); try go_wp2)
                 go_ret2
                 exact ⟨by first | rfl | (simp; done) | (simp only [← hji8, ← hji10, ← hji12, ← hji13, ← hji15, ← hji17, ← hji30] <;> (first | rfl | simp)) | (simp [*]; done), by repeat (first | exact Drawn0.refl _ | apply Drawn0.step)⟩
                ·rw [if_neg c29] at H
                 exact absurd H (by simp)
               ·rw [if_neg c28] at H
                have c28b0 : decide (4294967296 ≤ (IntKind.u64.wrap (x16_2 + ((ji10) / 4294967296)))) = false := decide_eq_false c28
                clear c28
                have H' := Aside0.mk H
                clear H
                go_wp2
                repeat (go_quiet (fail); try go_wp2)
                go_roundg kj24
                case measure => have := HJ18.out; have := HK2.out; have := HJ24.out; omega
                case rel => exact ⟨(IntKind.u64.wrap (x16_2 + ((ji10) / 4294967296))), (IntKind.u64.wrap (x18_2 - 1)), (by first | rfl | (simp; done) | (simp only [← hji10] <;> (first | rfl | simp)) | (simp [*]; done)), (by first | rfl | (simp; done) | (simp [*]; done)), H', ⟨by have := HJ18.out; have := HK2.out; have := HJ24.out; omega⟩, by repeat (first | exact Drawn0.refl _ | apply Drawn0.step)⟩
              ·replace c27 := Bool.eq_false_iff.mpr c27
               subst c27
               have H1 : (if 0 ≤ ji8 then (some (IntKind.u64.wrap ((IntKind.u64.wrap (x15_18 * 4294967296)) + x18_2), shr .u64 (IntKind.u64.wrap ((IntKind.u64.wrap ((IntKind.u64.wrap ((IntKind.u64.wrap ((IntKind.u64.wrap ((IntKind.u64.wrap ((Go.bits .or .u64 (ji12) (ji15)) * 4294967296)) + ((ji17) / 4294967296))) - (IntKind.u64.wrap (x15_18 * ji10)))) * 4294967296)) + (Go.bits .and .u64 (ji17) 4294967295))) - (IntKind.u64.wrap (x18_2 * ji10)))) ji8)) else (none)) = some (r1, r2) := by rw [if_neg (show ¬ (false = true) by decide)] at H; exact H
               clear H
               have H := H1
               clear H1
               by_cases c31 : 0 ≤ ji8
               ·rw [if_pos c31] at H
                have c31b0 := eq_true c31
                have c31b1 : decide (0 ≤ ji8) = true := decide_eq_true c31
                clear c31
                obtain ⟨ji32, hji32⟩ : ∃ j_ : Int, (shr .u64 (IntKind.u64.wrap ((IntKind.u64.wrap ((IntKind.u64.wrap ((IntKind.u64.wrap ((IntKind.u64.wrap ((IntKind.u64.wrap ((Go.bits .or .u64 (ji12) (ji15)) * 4294967296)) + ((ji17) / 4294967296))) - (IntKind.u64.wrap (x15_18 * ji10)))) * 4294967296)) + (Go.bits .and .u64 (ji17) 4294967295))) - (IntKind.u64.wrap (x18_2 * ji10)))) ji8) = j_ := ⟨_, rfl⟩
                replace H : (some (IntKind.u64.wrap ((IntKind.u64.wrap (x15_18 * 4294967296)) + x18_2), ji32)) = some (r1, r2) := by first | (rw [hji32] at H; exact H) | (simp only [hji32] at H ⊢; exact H)
                have hji32_ : ((IntKind.u64.wrap ((IntKind.u64.wrap ((IntKind.u64.wrap ((IntKind.u64.wrap ((IntKind.u64.wrap ((IntKind.u64.wrap ((Go.bits .or .u64 (ji12) (ji15)) * 4294967296)) + ((ji17) / 4294967296))) - (IntKind.u64.wrap (x15_18 * ji10)))) * 4294967296)) + (Go.bits .and .u64 (ji17) 4294967295))) - (IntKind.u64.wrap (x18_2 * ji10)))) / 2 ^ min ji8.toNat 64) = ji32 := hji32
                have hji32z : ji8 ≤ 64 → ((IntKind.u64.wrap ((IntKind.u64.wrap ((IntKind.u64.wrap ((IntKind.u64.wrap ((IntKind.u64.wrap ((IntKind.u64.wrap ((Go.bits .or .u64 (ji12) (ji15)) * 4294967296)) + ((ji17) / 4294967296))) - (IntKind.u64.wrap (x15_18 * ji10)))) * 4294967296)) + (Go.bits .and .u64 (ji17) 4294967295))) - (IntKind.u64.wrap (x18_2 * ji10)))) / 2 ^ ji8.toNat) = ji32 := shr_small hji32
                simp only [Option.some.injEq, Prod.mk.injEq] at H
                obtain ⟨rfl, rfl⟩ := H
                go_wp2
                repeat (go_quiet (fail); try go_wp2)
                go_ret2
                exact ⟨by first | rfl | (simp; done) | (simp only [← hji8, ← hji10, ← hji12, ← hji13, ← hji15, ← hji17, ← hji32] <;> (first | rfl | simp)) | (simp [*]; done), by repeat (first | exact Drawn0.refl _ | apply Drawn0.step)⟩
               ·rw [if_neg c31] at H
                exact absurd H (by simp)
     ·rw [if_neg c14] at H
      exact absurd H (by simp)
    ·rw [if_neg c9] at H
     exact absurd H (by simp)
theorem div64_l1 (y s yn1 yn0 un q1 u : Int) (hs : 0 ≤ s) (d : Nat) : ∀ r q, DvInv y yn1 yn0 u un r q → (4294967296 - r).toNat < d →
  ∃ k, bits_Div64.l1 k y s yn1 yn0 un q1 r u q = some (IntKind.u64.wrap ((IntKind.u64.wrap (q1 * 4294967296)) + (u * 4294967296 + un) / y), shr .u64 (u * 4294967296 + un - (u * 4294967296 + un) / y * y) s) := by
 induction d with
 | zero => intro r q h hd; omega
 | succ d ih =>
  intro r q h hd
  obtain ⟨t1, t2, q0⟩ := h.test
  have R := h.rest
  have y64 := h.y64
  have Q0 := h.Q0; have QB := h.QB
  have r0 := h.r0; have r1 := h.r1; have n1 := h.n1; have n1' := h.n1'
  by_cases ht : 4294967296 ≤ q ∨ r * 4294967296 + un < q * yn0
  ·have l := h.less ht
   have hq := h.q1
   have eq1 : IntKind.u64.wrap (q - 1) = q - 1 := u64_id _ (by omega) (by omega)
   have er : IntKind.u64.wrap (r + yn1) = r + yn1 := u64_id _ (by omega) (by omega)
   have step : ∀ k, bits_Div64.l1 (k + 2) y s yn1 yn0 un q1 r u q = bits_Div64.j4 (k + 1) y s yn1 yn0 un q1 r u q true := by
    intro k
    conv => lhs; unfold bits_Div64.l1
    by_cases hb : 4294967296 ≤ q
    ·rw [if_pos hb]
    ·rw [if_neg hb, t1, t2, decide_eq_true (show q * yn0 > r * 4294967296 + un by omega)]
   by_cases hr : r + yn1 < 4294967296
   ·obtain ⟨k, hk⟩ := ih (r + yn1) (q - 1) (h.next ht hr) (by omega)
    refine ⟨k + 2, ?_⟩
    rw [step k]
    conv => lhs; unfold bits_Div64.j4
    rw [if_pos rfl, er, if_neg (by omega), eq1]
    exact hk
   ·refine ⟨2, ?_⟩
    have st := h.stop ht (by omega)
    rw [step 0]
    conv => lhs; unfold bits_Div64.j4
    rw [if_pos rfl, er, if_pos (by omega), if_pos hs, eq1, dv_rest u un (q - 1) y _ (by rw [st]) R.1 (by omega), st]
  ·have f := h.found (by omega)
   refine ⟨2, ?_⟩
   conv => lhs; unfold bits_Div64.l1
   rw [if_neg (by omega), t1, t2, decide_eq_false (by omega)]
   conv => lhs; unfold bits_Div64.j4
   rw [if_neg (by simp), if_pos hs, dv_rest u un q y _ (by rw [f]) R.1 (by omega), f]
theorem div64_l0 (y s yn1 yn0 un1 un0 u : Int) (hs : 0 ≤ s) (hu0 : 0 ≤ un0) (hu1 : un0 < 4294967296) (d : Nat) : ∀ r q, DvInv y yn1 yn0 u un1 r q → (4294967296 - r).toNat < d →
  ∃ k, bits_Div64.l0 k y s yn1 yn0 u un1 un0 q r = some (IntKind.u64.wrap ((IntKind.u64.wrap ((u * 4294967296 + un1) / y * 4294967296)) + ((u * 4294967296 + un1 - (u * 4294967296 + un1) / y * y) * 4294967296 + un0) / y), shr .u64 ((u * 4294967296 + un1 - (u * 4294967296 + un1) / y * y) * 4294967296 + un0 - ((u * 4294967296 + un1 - (u * 4294967296 + un1) / y * y) * 4294967296 + un0) / y * y) s) := by
 have two : ∀ r q, DvInv y yn1 yn0 u un1 r q → ∀ q', q' = (u * 4294967296 + un1) / y → ∃ k, bits_Div64.j2 k y s yn1 yn0 u un1 un0 q' = some (IntKind.u64.wrap ((IntKind.u64.wrap ((u * 4294967296 + un1) / y * 4294967296)) + ((u * 4294967296 + un1 - (u * 4294967296 + un1) / y * y) * 4294967296 + un0) / y), shr .u64 ((u * 4294967296 + un1 - (u * 4294967296 + un1) / y * y) * 4294967296 + un0 - ((u * 4294967296 + un1 - (u * 4294967296 + un1) / y * y) * 4294967296 + un0) / y * y) s) := by
  intro r q h q' hq'
  have R := h.rest
  have y64 := h.y64
  have e := dv_rest u un1 q' y _ (by rw [hq']) R.1 (by omega)
  generalize hv : u * 4294967296 + un1 - (u * 4294967296 + un1) / y * y = v at *
  have i := DvInv.start h.hy h.n1 h.n1' h.n0 h.n0' hu0 hu1 R.1 R.2
  obtain ⟨k, hk⟩ := div64_l1 y s yn1 yn0 un0 q' v hs _ _ _ i (Nat.lt_succ_self _)
  refine ⟨k + 1, ?_⟩
  simp only [bits_Div64.j2]
  have n1 := h.n1
  have td : IntKind.u64.wrap (Int.tdiv v yn1) = v / yn1 := by
   rw [Int.tdiv_eq_ediv_of_nonneg R.1]
   exact u64_id _ (Int.ediv_nonneg R.1 (by omega)) (Int.lt_of_le_of_lt (Int.ediv_le_self _ R.1) (by omega))
  have m0 := Int.ediv_nonneg R.1 (show 0 ≤ yn1 by omega)
  have m1 := Int.ediv_mul_le v (show yn1 ≠ 0 by omega)
  have m2 := Int.mul_nonneg m0 (show 0 ≤ yn1 by omega)
  rw [if_neg (by omega), e, td, u64_id (v / yn1 * yn1) m2 (by omega), u64_id (v - v / yn1 * yn1) (by omega) (by omega), hk, hq']
 induction d with
 | zero => intro r q h hd; omega
 | succ d ih =>
  intro r q h hd
  obtain ⟨t1, t2, q0⟩ := h.test
  have r0 := h.r0; have r1 := h.r1; have n1 := h.n1; have n1' := h.n1'
  by_cases ht : 4294967296 ≤ q ∨ r * 4294967296 + un1 < q * yn0
  ·have l := h.less ht
   have hq := h.q1
   have Q0 := h.Q0
   have eq1 : IntKind.u64.wrap (q - 1) = q - 1 := u64_id _ (by omega) (by omega)
   have er : IntKind.u64.wrap (r + yn1) = r + yn1 := u64_id _ (by omega) (by omega)
   have step : ∀ k, bits_Div64.l0 (k + 2) y s yn1 yn0 u un1 un0 q r = bits_Div64.j1 (k + 1) y s yn1 yn0 u un1 un0 q r true := by
    intro k
    conv => lhs; unfold bits_Div64.l0
    by_cases hb : 4294967296 ≤ q
    ·rw [if_pos hb]
    ·rw [if_neg hb, t1, t2, decide_eq_true (show q * yn0 > r * 4294967296 + un1 by omega)]
   by_cases hr : r + yn1 < 4294967296
   ·obtain ⟨k, hk⟩ := ih (r + yn1) (q - 1) (h.next ht hr) (by omega)
    refine ⟨k + 2, ?_⟩
    rw [step k]
    conv => lhs; unfold bits_Div64.j1
    rw [if_pos rfl, er, if_neg (by omega), eq1]
    exact hk
   ·obtain ⟨k, hk⟩ := two r q h (q - 1) (h.stop ht (by omega))
    refine ⟨k + 2, ?_⟩
    rw [step k]
    conv => lhs; unfold bits_Div64.j1
    rw [if_pos rfl, er, if_pos (by omega), eq1]
    exact hk
  ·obtain ⟨k, hk⟩ := two r q h q (h.found (by omega))
   refine ⟨k + 2, ?_⟩
   conv => lhs; unfold bits_Div64.l0
   rw [if_neg (by omega), t1, t2, decide_eq_false (by omega)]
   conv => lhs; unfold bits_Div64.j1
   rw [if_neg (by simp)]
   exact hk
theorem div64_spec (hi lo y : Int) (h0 : 0 ≤ hi) (hy : hi < y) (hy1 : y < 18446744073709551616) (l0 : 0 ≤ lo) (l1 : lo < 18446744073709551616) :
  ∃ k, bits_Div64.f k hi lo y = some ((hi * 18446744073709551616 + lo) / y, (hi * 18446744073709551616 + lo) % y) := by
 by_cases hz : hi = 0
 ·subst hz
  refine ⟨0, ?_⟩
  unfold bits_Div64.f
  rw [if_neg (by omega), if_neg (by omega), if_pos rfl, Int.tdiv_eq_ediv_of_nonneg l0, Int.tmod_eq_emod_of_nonneg l0, Int.zero_mul, Int.zero_add]
  rw [u64_id _ (Int.ediv_nonneg l0 (by omega)) (Int.lt_of_le_of_lt (Int.ediv_le_self _ l0) l1)]
 obtain ⟨j, eL, b1, b2, b3⟩ := bitLen_span y.toNat (by omega) (by omega)
 obtain ⟨P, hP⟩ : ∃ P : Int, P = ((2 ^ (63 - j) : Nat) : Int) := ⟨_, rfl⟩
 obtain ⟨R, hR⟩ : ∃ R : Int, R = ((2 ^ (j + 1) : Nat) : Int) := ⟨_, rfl⟩
 obtain ⟨J, hJ⟩ : ∃ J : Int, J = ((2 ^ j : Nat) : Int) := ⟨_, rfl⟩
 have P0 : 0 < P := by rw [hP]; exact Int.natCast_pos.mpr (Nat.two_pow_pos _)
 have R0 : 0 < R := by rw [hR]; exact Int.natCast_pos.mpr (Nat.two_pow_pos _)
 have PR : P * R = 18446744073709551616 := by
  rw [hP, hR, ← Int.natCast_mul, ← Nat.pow_add, show 63 - j + (j + 1) = 64 by omega]; rfl
 have PJ : J * P = 9223372036854775808 := by
  rw [hP, hJ, ← Int.natCast_mul, ← Nat.pow_add, show j + (63 - j) = 63 by omega]; rfl
 have yR : y < R := by rw [hR]; omega
 have Jy : J ≤ y := by rw [hJ]; omega
 have hs : (wrap64 (64 - ((j + 1 : Nat) : Int))) = ((63 - j : Nat) : Int) := by unfold wrap64; omega
 have hs2 : IntKind.u64.wrap ((63 - j : Nat) : Int) = ((63 - j : Nat) : Int) := u64_id _ (by omega) (by omega)
 have hs3 : IntKind.u64.wrap (64 - ((63 - j : Nat) : Int)) = ((j + 1 : Nat) : Int) := by rw [u64_id _ (by omega) (by omega)]; omega
 have eshl : ∀ x : Int, shl .u64 x ((63 - j : Nat) : Int) = x * P % 18446744073709551616 := by
  intro x
  unfold shl
  rw [u64_mod, hP, Int.toNat_natCast, Nat.min_eq_left (by show 63 - j ≤ 64; omega), Int.natCast_pow]; rfl
 have eshr : ∀ x : Int, shr .u64 x ((j + 1 : Nat) : Int) = x / R := by
  intro x
  unfold shr
  rw [hR, Int.toNat_natCast, Nat.min_eq_left (by show j + 1 ≤ 64; omega), Int.natCast_pow]; rfl
 have eshr2 : ∀ x : Int, shr .u64 x ((63 - j : Nat) : Int) = x / P := by
  intro x
  unfold shr
  rw [hP, Int.toNat_natCast, Nat.min_eq_left (by show 63 - j ≤ 64; omega), Int.natCast_pow]; rfl
 have Y1 : y * P < 18446744073709551616 := by rw [← PR, Int.mul_comm P R]; exact Int.mul_lt_mul_of_pos_right yR P0
 have Y0 : 9223372036854775808 ≤ y * P := by rw [← PJ]; exact Int.mul_le_mul_of_nonneg_right Jy (by omega)
 have hP1 : hi * P < y * P := Int.mul_lt_mul_of_pos_right hy P0
 have hP0 : 0 ≤ hi * P := Int.mul_nonneg h0 (by omega)
 obtain ⟨lp, lR0, lR1⟩ := shift_parts lo P R P0 R0 PR l0 l1
 have hyP : (hi + 1) * P ≤ y * P := Int.mul_le_mul_of_nonneg_right (by omega) (by omega)
 rw [Int.add_mul, Int.one_mul] at hyP
 have eor : Go.bits .or .u64 (hi * P) (lo / R) = hi * P + lo / R := or_add_u64 hi P (lo / R) (63 - j) hP h0 lR0 lR1 (by omega)
 have nP : (hi * 18446744073709551616 + lo) * P = (hi * P + lo / R) * 18446744073709551616 + lo * P % 18446744073709551616 := by
  rw [Int.add_mul, Int.mul_assoc, Int.mul_comm 18446744073709551616 P, ← Int.mul_assoc]
  omega
 have t0 := Int.emod_nonneg (lo * P) (show (18446744073709551616 : Int) ≠ 0 by omega)
 have t1 := Int.emod_lt_of_pos (lo * P) (show (0 : Int) < 18446744073709551616 by omega)
 have elz : bits_LeadingZeros64.f y = some ((63 - j : Nat) : Int) := by
  unfold bits_LeadingZeros64.f bits_Len64.f
  rw [if_pos ⟨by omega, by omega⟩, Option.bind_some, eL, hs]
 have qn := Int.mul_ediv_mul_of_pos_left (hi * 18446744073709551616 + lo) y P0
 have rn : (hi * 18446744073709551616 + lo) * P % (y * P) = (hi * 18446744073709551616 + lo) % y * P := by rw [Int.mul_comm _ P, Int.mul_comm y P, Int.mul_emod_mul_of_pos _ _ P0, Int.mul_comm]
 have y0 : 0 < y := by omega
 generalize hT : lo * P % 18446744073709551616 = T at *
 generalize hU : hi * P + lo / R = U at *
 have hA : (hi * P) % 18446744073709551616 = hi * P := Int.emod_eq_of_lt hP0 (by omega)
 have hB : (y * P) % 18446744073709551616 = y * P := Int.emod_eq_of_lt (by omega) Y1
 generalize hYY : y * P = Y at *
 have i := DvInv.start (y := Y) (yn1 := Y / 4294967296) (yn0 := Y % 4294967296) (u := U) (un := T / 4294967296) (by omega) (by omega) (by omega) (by omega) (by omega) (by omega) (by omega) (by omega) (by omega)
 obtain ⟨k, hk⟩ := div64_l0 Y ((63 - j : Nat) : Int) (Y / 4294967296) (Y % 4294967296) (T / 4294967296) (T % 4294967296) U (by omega) (by omega) (by omega) _ _ _ i (Nat.lt_succ_self _)
 refine ⟨k, ?_⟩
 unfold bits_Div64.f
 have yn := i.n1
 have td : IntKind.u64.wrap (Int.tdiv U (Y / 4294967296)) = U / (Y / 4294967296) := by
  rw [Int.tdiv_eq_ediv_of_nonneg i.u0]
  exact u64_id _ (Int.ediv_nonneg i.u0 (by omega)) (Int.lt_of_le_of_lt (Int.ediv_le_self _ i.u0) (by omega))
 have m0 := Int.ediv_nonneg i.u0 (show 0 ≤ Y / 4294967296 by omega)
 have m1 := Int.ediv_mul_le U (show Y / 4294967296 ≠ 0 by omega)
 have m2 := Int.mul_nonneg m0 (show 0 ≤ Y / 4294967296 by omega)
 have aY : Go.bits .and .u64 Y 4294967295 = Y % 4294967296 := and_low32 Y (by omega) (by omega)
 have aT : Go.bits .and .u64 T 4294967295 = T % 4294967296 := and_low32 T (by omega) (by omega)
 rw [if_neg (by omega), if_neg (by omega), if_neg hz, elz, Option.bind_some, hs2, if_pos (by omega), hs3, if_pos (by omega), eshl y, hYY, hB, if_neg (by omega), eshl hi, hA, eshr lo, eor, eshl lo, hT, aY, aT, td,
  u64_id (U / (Y / 4294967296) * (Y / 4294967296)) m2 (by omega), u64_id (U - U / (Y / 4294967296) * (Y / 4294967296)) (by omega) (by omega), hk]
 have R1 := i.rest
 have QB := i.QB
 have Q0 := i.Q0
 generalize hQ : (U * 4294967296 + T / 4294967296) / Y = Q1 at *
 generalize hV : U * 4294967296 + T / 4294967296 - Q1 * Y = V at *
 have V0 : 0 ≤ (V * 4294967296 + T % 4294967296) / Y := Int.ediv_nonneg (by omega) (by omega)
 have V1 : (V * 4294967296 + T % 4294967296) / Y < 4294967296 := dv_lt _ _ _ (by omega) (by omega)
 have me := Int.emod_add_mul_ediv (V * 4294967296 + T % 4294967296) Y
 have me0 := Int.emod_nonneg (V * 4294967296 + T % 4294967296) (show Y ≠ 0 by omega)
 have me1 := Int.emod_lt_of_pos (V * 4294967296 + T % 4294967296) (show 0 < Y by omega)
 rw [Int.mul_comm Y _] at me
 generalize hQ2 : (V * 4294967296 + T % 4294967296) / Y = Q2 at *
 generalize hW : (V * 4294967296 + T % 4294967296) % Y = W at *
 have all : (hi * 18446744073709551616 + lo) * P = (Q1 * 4294967296 + Q2) * Y + W := by
  rw [nP, Int.add_mul, Int.mul_assoc, Int.mul_comm 4294967296 Y, ← Int.mul_assoc]
  omega
 have fq : (hi * 18446744073709551616 + lo) / y = Q1 * 4294967296 + Q2 := by
  rw [← qn, all]
  rw [Int.add_comm, Int.add_mul_ediv_right _ _ (by omega), Int.ediv_eq_zero_of_lt me0 me1, Int.zero_add]
 have fr : (hi * 18446744073709551616 + lo) % y * P = W := by
  rw [← rn, all, Int.add_comm, Int.add_mul_emod_self_right, Int.emod_eq_of_lt me0 me1]
 rw [u64_id (Q1 * 4294967296) (by omega) (by omega), u64_id (Q1 * 4294967296 + Q2) (by omega) (by omega), eshr2, show V * 4294967296 + T % 4294967296 - Q2 * Y = W by omega, fq, ← fr, Int.mul_ediv_cancel _ (by omega)]
def muldiv_divided.f (n0 : Int) (n1 : Int) (c : Int) : Option (Int × Int × Int) :=
 if (0 ≤ n0 ∧ n0 < 18446744073709551616) ∧ (0 ≤ n1 ∧ n1 < 18446744073709551616) ∧ (0 < c ∧ c < 18446744073709551616) then
  some (n0 / c, (n0 % c * 18446744073709551616 + n1) / c, (n0 % c * 18446744073709551616 + n1) % c) else none
set_option maxHeartbeats 4000000 in
set_option maxRecDepth 100000 in
theorem muldiv_divided.walk (n0 n1 c q0 l0 q1 l1 : Int) (k1 k2 : Nat) (w : World) (h0 : bits_Div64.f k1 0 n0 c = some (q0, l0)) (h1 : bits_Div64.f k2 l0 n1 c = some (q1, l1)) :
  Calls Try.prog 38 #[.agg #[.int .u64 n0, .int .u64 n1], .int .u64 c] w fun e w' => e = .returned (.tuple #[.agg #[.int .u64 q0, .int .u64 q1], .int .u64 l1]) ∧ Below w.heap.size w w' := by
 have hu62 := Try.underlying76
 have A0 := Aside0.mk h0
 have A1 := Aside0.mk h1
 clear h0 h1
 go_enter Try.func38, Try.ntmps38
 go_wp2
 refine wp_scope_jumps 0 (fun a' w' => ∃ (n : Nat) (u9 u10 u11 u12 u13 u14 u15 u16 u17 u18 u19 u20 u21 u22 u23 u24 u25 : Value), a' = { tmps := #[.agg #[.int .u64 n0, .int .u64 n1], .int .u64 c, .pointer (some ⟨w.heap.size, 0, none⟩), undef, .pointer (some ⟨w.heap.size + 1, 0, none⟩), .int .u64 0, .pointer (some ⟨w.heap.size + 1 + 1, 0, none⟩), .int .u64 l0, .int .i64 1, u9, u10, u11, u12, u13, u14, u15, u16, u17, u18, u19, u20, u21, u22, u23, u24, u25], defers := [] } ∧
   w' = (((((w.alloc (.cells #[.int .u64 n0, .int .u64 n1] 76)).alloc (.cells #[.int .u64 0, .int .u64 0] 76)).alloc (.cells #[.int .u64 0, .int .u64 0] 76)).drewN n).setCell ⟨w.heap.size + 1 + 1, 0, none⟩ (.int .u64 q0))) (fun a' _ => 0) rfl ?_ ?_
 ·go_wp2
  go_step3
  go_wp2_with (go_at_call 41; (with_reducible refine (bits_Div64.calls k1 0 n0 c q0 l0 _ A0.out).mono ?_); rintro e w' ⟨rfl, hd⟩; obtain ⟨n, rfl⟩ := hd.out)
  go_step3
  exact ⟨rfl, n, _, _, _, _, _, _, _, _, _, _, _, _, _, _, _, _, _, rfl, rfl⟩
 ·rintro a' w' ⟨n, u9, u10, u11, u12, u13, u14, u15, u16, u17, u18, u19, u20, u21, u22, u23, u24, u25, rfl, rfl⟩
  go_wp2_with (go_at_call 41; (with_reducible refine (bits_Div64.calls k2 l0 n1 c q1 l1 _ A1.out).mono ?_); rintro e w' ⟨rfl, hd⟩; obtain ⟨n2, rfl⟩ := hd.out)
  simp only [Exit.jump]
  refine bodyPost_ret (v := .tuple #[.agg #[.int .u64 q0, .int .u64 q1], .int .u64 l1]) (by simp [results, Try.results38, go_sem]) rfl ⟨rfl, ?_⟩
  repeat (first | refine Below.setCell ?_ (by simp; try omega) _ | apply pw_below_drewN | refine Below.alloc ?_ (by simp; try omega) _ | exact Below.refl _ _)
theorem muldiv_divided.calls (a0_0 : Int) (a0_1 : Int) (a1 : Int) (r1 : Int) (r2 : Int) (r3 : Int) (w : World) (h : muldiv_divided.f a0_0 a0_1 a1 = some (r1, r2, r3)) :
  Calls Try.prog 38 #[.agg #[.int .u64 a0_0, .int .u64 a0_1], .int .u64 a1] w fun e w' => e = .returned (.tuple #[.agg #[.int .u64 r1, .int .u64 r2], .int .u64 r3]) ∧ Below w.heap.size w w' := by
 unfold muldiv_divided.f at h
 split at h
 ·rename_i hb
  obtain ⟨⟨a, b⟩, ⟨c, d⟩, p, q⟩ := hb
  obtain ⟨k1, h1⟩ := div64_spec 0 a0_0 a1 (by omega) p q a b
  obtain ⟨k2, h2⟩ := div64_spec (a0_0 % a1) a0_1 a1 (Int.emod_nonneg _ (by omega)) (Int.emod_lt_of_pos _ p) q c d
  rw [Int.zero_mul, Int.zero_add] at h1
  simp only [Option.some.injEq, Prod.mk.injEq] at h
  obtain ⟨rfl, rfl, rfl⟩ := h
  exact muldiv_divided.walk _ _ _ _ _ _ _ k1 k2 w h1 h2
 ·cases h
end Go.Proofs.Ytdddpmmpfemibaa.P
end

section
namespace Go.Proofs.Ytdddpmmpfemibaa.P
open Go.RowKit Go.Proofs.YtdddpmmpfemibaaW.PrintWords Go.Proofs.YtdddpmmpfemibaaW.PrintLast Go.Proofs.YtdddpmmpfemibaaW.PrintMore
attribute [local go_sem] max2_int min2_int max_two min_two max_three min_three max_four min_four   -- for this text's walks alone
set_option linter.unusedVariables false
set_option linter.unusedSimpArgs false
def muldiv_up.f (a0 : Int) (a1 : Int) (a2 : Bool) (a3 : Int) : Option (Bool) := if a3 = 1 then (if a2 = true then (some (decide (a0 > 0))) else (some false)) else (if a3 = 3 then (if a2 = true then (some false) else (some (decide (a0 > 0)))) else (if a2 = true then (some (decide (a0 > (IntKind.u64.wrap (a1 - a0))))) else (if a0 > 0 then (some (decide (a0 ≥ (IntKind.u64.wrap (a1 - a0))))) else (some false))))
set_option maxHeartbeats 8000000 in
set_option maxRecDepth 100000 in
theorem muldiv_up.calls (a0 : Int) (a1 : Int) (a2 : Bool) (a3 : Int) (r : Bool) (w : World) (h : muldiv_up.f a0 a1 a2 a3 = some r) :
  Calls Try.prog 39 #[.int .u64 a0, .int .u64 a1, .bool a2, .int .i64 a3] w fun e w' => e = .returned (.bool r) ∧ Drawn0 w w' := by
 have H : (if a3 = 1 then (if a2 = true then (some (decide (a0 > 0))) else (some false)) else (if a3 = 3 then (if a2 = true then (some false) else (some (decide (a0 > 0)))) else (if a2 = true then (some (decide (a0 > (IntKind.u64.wrap (a1 - a0))))) else (if a0 > 0 then (some (decide (a0 ≥ (IntKind.u64.wrap (a1 - a0))))) else (some false))))) = some r := h
 clear h
 by_cases c5 : a3 = 1
 ·rw [if_pos c5] at H
  have c5b0 : (a3 == 1) = true := beq_iff_eq.mpr c5
  have c5b1 : (a3 != 1) = false := bne_eq_false_iff_eq.mpr c5
  clear c5
  by_cases c6 : a2 = true
  ·subst c6
   have H1 : (some (decide (a0 > 0))) = some r := by rw [if_pos rfl] at H; exact H
   clear H
   have H := H1
   clear H1
   obtain rfl := Option.some.inj H
   go_enter Try.func39, Try.ntmps39
   go_wp2
   go_ret
   exact ⟨by first | rfl | (simp; done) | (simp [*]; done), by repeat (first | exact Drawn0.refl _ | apply Drawn0.step)⟩
  ·replace c6 := Bool.eq_false_iff.mpr c6
   subst c6
   have H1 : (some false) = some r := by rw [if_neg (show ¬ (false = true) by decide)] at H; exact H
   clear H
   have H := H1
   clear H1
   obtain rfl := Option.some.inj H
   go_enter Try.func39, Try.ntmps39
   go_wp2
   go_ret
   exact ⟨by first | rfl | (simp; done) | (simp [*]; done), by repeat (first | exact Drawn0.refl _ | apply Drawn0.step)⟩
 ·rw [if_neg c5] at H
  have c5b0 : (a3 == 1) = false := beq_eq_false_iff_ne.mpr c5
  have c5b1 : (a3 != 1) = true := bne_iff_ne.mpr c5
  by_cases c7 : a3 = 3
  ·rw [if_pos c7] at H
   have c7b0 : (a3 == 3) = true := beq_iff_eq.mpr c7
   have c7b1 : (a3 != 3) = false := bne_eq_false_iff_eq.mpr c7
   clear c7
   by_cases c8 : a2 = true
   ·subst c8
    have H1 : (some false) = some r := by rw [if_pos rfl] at H; exact H
    clear H
    have H := H1
    clear H1
    obtain rfl := Option.some.inj H
    go_enter Try.func39, Try.ntmps39
    go_wp2
    go_ret
    exact ⟨by first | rfl | (simp; done) | (simp [*]; done), by repeat (first | exact Drawn0.refl _ | apply Drawn0.step)⟩
   ·replace c8 := Bool.eq_false_iff.mpr c8
    subst c8
    have H1 : (some (decide (a0 > 0))) = some r := by rw [if_neg (show ¬ (false = true) by decide)] at H; exact H
    clear H
    have H := H1
    clear H1
    obtain rfl := Option.some.inj H
    go_enter Try.func39, Try.ntmps39
    go_wp2
    go_ret
    exact ⟨by first | rfl | (simp; done) | (simp [*]; done), by repeat (first | exact Drawn0.refl _ | apply Drawn0.step)⟩
  ·rw [if_neg c7] at H
   have c7b0 : (a3 == 3) = false := beq_eq_false_iff_ne.mpr c7
   have c7b1 : (a3 != 3) = true := bne_iff_ne.mpr c7
   by_cases c9 : a2 = true
   ·subst c9
    have H1 : (some (decide (a0 > (IntKind.u64.wrap (a1 - a0))))) = some r := by rw [if_pos rfl] at H; exact H
    clear H
    have H := H1
    clear H1
    obtain rfl := Option.some.inj H
    go_enter Try.func39, Try.ntmps39
    go_wp2
    go_ret
    exact ⟨by first | rfl | (simp; done) | (simp [*]; done), by repeat (first | exact Drawn0.refl _ | apply Drawn0.step)⟩
   ·replace c9 := Bool.eq_false_iff.mpr c9
    subst c9
    have H1 : (if a0 > 0 then (some (decide (a0 ≥ (IntKind.u64.wrap (a1 - a0))))) else (some false)) = some r := by rw [if_neg (show ¬ (false = true) by decide)] at H; exact H
    clear H
    have H := H1
    clear H1
    by_cases c10 : a0 > 0
    ·rw [if_pos c10] at H
     have c10b0 : decide (0 < a0) = true := decide_eq_true c10
     clear c10
     obtain rfl := Option.some.inj H
     go_enter Try.func39, Try.ntmps39
     go_wp2
     go_ret
     exact ⟨by first | rfl | (simp; done) | (simp [*]; done), by repeat (first | exact Drawn0.refl _ | apply Drawn0.step)⟩
    ·rw [if_neg c10] at H
     have c10b0 : decide (0 < a0) = false := decide_eq_false c10
     clear c10
     obtain rfl := Option.some.inj H
     go_enter Try.func39, Try.ntmps39
     go_wp2
     go_ret
     exact ⟨by first | rfl | (simp; done) | (simp [*]; done), by repeat (first | exact Drawn0.refl _ | apply Drawn0.step)⟩
def add64s (x y c : Int) : Int := (((x.toNat + y.toNat + c.toNat) % 18446744073709551616 : Nat) : Int)
def add64c (x y c : Int) : Int := (((x.toNat + y.toNat + c.toNat) / 18446744073709551616 : Nat) : Int)
theorem run_add64_any (x y c : Int) (hc : c ≤ 1) (w : World) :
  (callFunc 40 #[.int .u64 x, .int .u64 y, .int .u64 c]).run Try.prog w = .ok (.value (.tuple #[.int .u64 (add64s x y c), .int .u64 (add64c x y c)])) w := by
 rw [run_callFunc_extern Try.func40 (by kernel_rfl) (by kernel_rfl) (by kernel_rfl) (e := add64Entry) (by kernel_rfl)]
 have key : (add64Entry #[.int .u64 x, .int .u64 y, .int .u64 c]).run Try.prog w = .ok (.tuple #[.int .u64 (add64s x y c), .int .u64 (add64c x y c)]) w := by
  cases c with
  | ofNat k =>
   have hk : k = 0 ∨ k = 1 := by have : ((k : Nat) : Int) ≤ 1 := hc; omega
   rcases hk with rfl | rfl <;> rfl
  | negSucc n => rfl
 rw [key]
 rfl
theorem run_add64_0 (x y : Int) (w : World) :
  (callFunc 40 #[.int .u64 x, .int .u64 y, .int .u64 0]).run Try.prog w = .ok (.value (.tuple #[.int .u64 (add64s x y 0), .int .u64 (add64c x y 0)])) w := run_add64_any x y 0 (by decide) w
theorem run_add64_c (x y c : Int) (hc : decide (c ≤ 1) = true) (w : World) :
  (callFunc 40 #[.int .u64 x, .int .u64 y, .int .u64 c]).run Try.prog w = .ok (.value (.tuple #[.int .u64 (add64s x y c), .int .u64 (add64c x y c)])) w := run_add64_any x y c (of_decide_eq_true hc) w
end Go.Proofs.Ytdddpmmpfemibaa.P
end

section
namespace Go.Proofs.Ytdddpmmpfemibaa.P
open Go.RowKit Go.Proofs.YtdddpmmpfemibaaW.PrintWords Go.Proofs.YtdddpmmpfemibaaW.PrintLast Go.Proofs.YtdddpmmpfemibaaW.PrintMore
attribute [local go_sem] max2_int min2_int max_two min_two max_three min_three max_four min_four   -- for this text's walks alone
set_option linter.unusedVariables false
set_option linter.unusedSimpArgs false
mutual
def muldiv_quotient.j0 : Nat → Int → Int → Int → Int → Bool → Option (Int × Bool)
 | 0, _, _, _, _, _ => none
 | k + 1, x0, x1, x2, x3, x26 => if x26 = true then (some (0, false)) else ((muldiv_size.f x0).bind fun t104 => ((muldiv_size.f x1).bind fun t105 => ((bits_Mul64.f t104 t105).bind fun bt106 => (if x0 < 0 then (if x1 < 0 then (if x2 < 0 then (muldiv_quotient.j1 k x2 x3 true bt106.1 bt106.2) else (muldiv_quotient.j1 k x2 x3 false bt106.1 bt106.2)) else (if x2 < 0 then (muldiv_quotient.j1 k x2 x3 false bt106.1 bt106.2) else (muldiv_quotient.j1 k x2 x3 true bt106.1 bt106.2))) else (if x1 < 0 then (if x2 < 0 then (muldiv_quotient.j1 k x2 x3 false bt106.1 bt106.2) else (muldiv_quotient.j1 k x2 x3 true bt106.1 bt106.2)) else (if x2 < 0 then (muldiv_quotient.j1 k x2 x3 true bt106.1 bt106.2) else (muldiv_quotient.j1 k x2 x3 false bt106.1 bt106.2)))))))
def muldiv_quotient.j1 : Nat → Int → Int → Bool → Int → Int → Option (Int × Bool)
 | 0, _, _, _, _, _ => none
 | k + 1, x2, x3, x11, x104000, x104001 => (muldiv_size.f x2).bind fun t108 => ((muldiv_divided.f x104000 x104001 t108).bind fun bt109 => ((muldiv_size.f x2).bind fun t113 => ((muldiv_up.f bt109.2.2 t113 x11 x3).bind fun t114 => (if t114 = true then (muldiv_quotient.j2 k x11 (IntKind.u64.wrap (bt109.1 + (add64c bt109.2.1 1 0))) (add64s bt109.2.1 1 0)) else (muldiv_quotient.j2 k x11 bt109.1 bt109.2.1)))))
def muldiv_quotient.j2 : Nat → Bool → Int → Int → Option (Int × Bool)
 | 0, _, _, _ => none
 | k + 1, x11, x113000, x113001 => if x11 = true then (muldiv_quotient.j3 k x11 (9223372036854775807 + 1) x113000 x113001) else (muldiv_quotient.j3 k x11 9223372036854775807 x113000 x113001)
def muldiv_quotient.j3 : Nat → Bool → Int → Int → Int → Option (Int × Bool)
 | 0, _, _, _, _ => none
 | k + 1, x11, x16, x113000, x113001 => if x113000 > 0 then (muldiv_quotient.j4 k x11 true x113000 x113001) else (muldiv_quotient.j4 k x11 (decide (x113001 > x16)) x113000 x113001)
def muldiv_quotient.j4 : Nat → Bool → Bool → Int → Int → Option (Int × Bool)
 | 0, _, _, _, _ => none
 | k + 1, x11, x73, x113000, x113001 => if x73 = true then (if x11 = true then (some ((-9223372036854775808), false)) else (some (9223372036854775807, false))) else (if x11 = true then (some (wrap64 (IntKind.u64.wrap (-x113001)), true)) else (some (wrap64 (x113001), true)))
end
def muldiv_quotient.f (k : Nat) (a0 : Int) (a1 : Int) (a2 : Int) (a3 : Int) : Option (Int × Bool) := if a2 = 0 then (muldiv_quotient.j0 k a0 a1 a2 a3 true) else (if a3 < 1 then (muldiv_quotient.j0 k a0 a1 a2 a3 true) else (muldiv_quotient.j0 k a0 a1 a2 a3 (decide (a3 > 3))))
def muldiv_quotient.T6 : Bool × List (List Nat × List Nat) := (true, [([], []), ([], []), ([1], [1]), ([0, 2, 2], [0, 2]), ([3], [3]), ([4], [4]), ([4], [4]), ([], []), ([7, 5, 3, 0, 1, 2, 3, 4, 5, 7], [5, 7]), ([6, 8, 0, 1, 2, 3, 4, 5, 6, 7, 8], [6])])
def muldiv_quotient.B6 : List Nat := [0, 0, 2, 7, 15, 31, 31, 0, 191, 511]
theorem muldiv_quotient.tab6 : rtab .any (opsOf Try.f32 6) = muldiv_quotient.T6 := by kernel_rfl
theorem muldiv_quotient.bits6 : waitsOk muldiv_quotient.T6.2 muldiv_quotient.B6 = true := by kernel_rfl
set_option maxHeartbeats 8000000 in
set_option maxRecDepth 100000 in
theorem muldiv_quotient.calls (k : Nat) (a0 : Int) (a1 : Int) (a2 : Int) (a3 : Int) (r1 : Int) (r2 : Bool) (w : World) (h : muldiv_quotient.f k a0 a1 a2 a3 = some (r1, r2)) :
  Calls Try.prog 32 #[.int .i64 a0, .int .i64 a1, .int .i64 a2, .int .i64 a3] w fun e w' => e = .returned (.tuple #[.int .i64 r1, .bool r2]) ∧ Below w.heap.size w w' := by
 have hu76 := Try.underlying76
 have hext_add64_0 := @run_add64_0
 have hext_add64_c := @run_add64_c
 have HB := Aside0.mk (Below.refl w.heap.size w)
 have H : (if a2 = 0 then (muldiv_quotient.j0 k a0 a1 a2 a3 true) else (if a3 < 1 then (muldiv_quotient.j0 k a0 a1 a2 a3 true) else (muldiv_quotient.j0 k a0 a1 a2 a3 (decide (a3 > 3))))) = some (r1, r2) := h
 clear h
 have HC5 := Aside0.mk H
 clear H
 go_enter Try.func32, Try.ntmps32
 go_upto_region 1 with (fail)
 go_cut [26] (fun v26 wc => ∃ (kq : Nat) (x26_4 : Bool), v26 = .bool x26_4 ∧ Aside0 (muldiv_quotient.j0 kq a0 a1 a2 a3 x26_4 = some (r1, r2)) ∧ Aside0 (kq ≤ k) ∧ Aside0 (Below w.heap.size w wc))
 case first =>
  have H := HC5.out
  clear HC5
  by_cases c6 : a2 = 0
  ·rw [if_pos c6] at H
   have c6b0 : (a2 == 0) = true := beq_iff_eq.mpr c6
   have c6b1 : (a2 != 0) = false := bne_eq_false_iff_eq.mpr c6
   clear c6
   (first | rw [c6b0] | (simp only [i64_w, i32_w]; rw [c6b0]) | skip)
   have H' := Aside0.mk H
   clear H
   go_wp2
   go_meet
   case rel => exact ⟨_, (true), (by first | rfl | (simp; done) | (simp [*]; done)), H', ⟨by first | omega | exact Nat.le_refl _⟩, ⟨by repeat (first | (with_reducible first | exact HB.out | apply below_alloc | apply pw_below_drewN | apply below_drew1) | exact HB.out)⟩⟩
  ·rw [if_neg c6] at H
   have c6b0 : (a2 == 0) = false := beq_eq_false_iff_ne.mpr c6
   have c6b1 : (a2 != 0) = true := bne_iff_ne.mpr c6
   (first | rw [c6b0] | (simp only [i64_w, i32_w]; rw [c6b0]) | skip)
   by_cases c7 : a3 < 1
   ·rw [if_pos c7] at H
    have c7b0 : decide (a3 < 1) = true := decide_eq_true c7
    clear c7
    have H' := Aside0.mk H
    clear H
    go_wp2
    go_meet
    case rel => exact ⟨_, (true), (by first | rfl | (simp; done) | (simp [*]; done)), H', ⟨by first | omega | exact Nat.le_refl _⟩, ⟨by repeat (first | (with_reducible first | exact HB.out | apply below_alloc | apply pw_below_drewN | apply below_drew1) | exact HB.out)⟩⟩
   ·rw [if_neg c7] at H
    have c7b0 : decide (a3 < 1) = false := decide_eq_false c7
    clear c7
    have H' := Aside0.mk H
    clear H
    go_wp2
    go_meet
    case rel => exact ⟨_, (decide (a3 > 3)), (by first | rfl | (simp; done) | (simp [*]; done)), H', ⟨by first | omega | exact Nat.le_refl _⟩, ⟨by repeat (first | (with_reducible first | exact HB.out | apply below_alloc | apply pw_below_drewN | apply below_drew1) | exact HB.out)⟩⟩
 case rest =>
  clear HC5
  try clear p2
  try clear c3
  try clear c6
  try clear c6b0
  try clear c6b1
  try clear c7
  try clear c7b0
  obtain ⟨kq, x26_4, rfl, HA, HJ4, HB⟩ := hcut
  cases kq with
  | zero => exact absurd HA.out (by simp [muldiv_quotient.j0])
  | succ kj4 =>
   have H := HA.out
   clear HA
   simp only [muldiv_quotient.j0] at H
   by_cases c8 : x26_4 = true
   ·subst c8
    have H1 : (some (0, false)) = some (r1, r2) := by rw [if_pos rfl] at H; exact H
    clear H
    have H := H1
    clear H1
    simp only [Option.some.injEq, Prod.mk.injEq] at H
    obtain ⟨rfl, rfl⟩ := H
    go_wp2
    go_ret2
    exact ⟨by first | rfl | (simp [errW_none, errW_some] <;> rfl) | (simp [*, errW_none, errW_some] <;> rfl), by repeat (first | (with_reducible first | exact HB.out | apply below_alloc | apply pw_below_drewN | apply below_drew1) | exact HB.out)⟩
   ·replace c8 := Bool.eq_false_iff.mpr c8
    subst c8
    have H1 : ((muldiv_size.f a0).bind fun t104 => ((muldiv_size.f a1).bind fun t105 => ((bits_Mul64.f t104 t105).bind fun bt106 => (if a0 < 0 then (if a1 < 0 then (if a2 < 0 then (muldiv_quotient.j1 kj4 a2 a3 true bt106.1 bt106.2) else (muldiv_quotient.j1 kj4 a2 a3 false bt106.1 bt106.2)) else (if a2 < 0 then (muldiv_quotient.j1 kj4 a2 a3 false bt106.1 bt106.2) else (muldiv_quotient.j1 kj4 a2 a3 true bt106.1 bt106.2))) else (if a1 < 0 then (if a2 < 0 then (muldiv_quotient.j1 kj4 a2 a3 false bt106.1 bt106.2) else (muldiv_quotient.j1 kj4 a2 a3 true bt106.1 bt106.2)) else (if a2 < 0 then (muldiv_quotient.j1 kj4 a2 a3 true bt106.1 bt106.2) else (muldiv_quotient.j1 kj4 a2 a3 false bt106.1 bt106.2))))))) = some (r1, r2) := by rw [if_neg (show ¬ (false = true) by decide)] at H; exact H
    clear H
    have H := H1
    clear H1
    replace H := Option.bind_eq_some_iff.mp H
    obtain ⟨t104, A90, H⟩ := H
    replace H : ((muldiv_size.f a1).bind fun t105 => ((bits_Mul64.f t104 t105).bind fun bt106 => (if a0 < 0 then (if a1 < 0 then (if a2 < 0 then (muldiv_quotient.j1 kj4 a2 a3 true bt106.1 bt106.2) else (muldiv_quotient.j1 kj4 a2 a3 false bt106.1 bt106.2)) else (if a2 < 0 then (muldiv_quotient.j1 kj4 a2 a3 false bt106.1 bt106.2) else (muldiv_quotient.j1 kj4 a2 a3 true bt106.1 bt106.2))) else (if a1 < 0 then (if a2 < 0 then (muldiv_quotient.j1 kj4 a2 a3 false bt106.1 bt106.2) else (muldiv_quotient.j1 kj4 a2 a3 true bt106.1 bt106.2)) else (if a2 < 0 then (muldiv_quotient.j1 kj4 a2 a3 true bt106.1 bt106.2) else (muldiv_quotient.j1 kj4 a2 a3 false bt106.1 bt106.2)))))) = some (r1, r2) := H
    have A9 := Aside0.mk A90
    clear A90
    replace H := Option.bind_eq_some_iff.mp H
    obtain ⟨t105, A100, H⟩ := H
    replace H : ((bits_Mul64.f t104 t105).bind fun bt106 => (if a0 < 0 then (if a1 < 0 then (if a2 < 0 then (muldiv_quotient.j1 kj4 a2 a3 true bt106.1 bt106.2) else (muldiv_quotient.j1 kj4 a2 a3 false bt106.1 bt106.2)) else (if a2 < 0 then (muldiv_quotient.j1 kj4 a2 a3 false bt106.1 bt106.2) else (muldiv_quotient.j1 kj4 a2 a3 true bt106.1 bt106.2))) else (if a1 < 0 then (if a2 < 0 then (muldiv_quotient.j1 kj4 a2 a3 false bt106.1 bt106.2) else (muldiv_quotient.j1 kj4 a2 a3 true bt106.1 bt106.2)) else (if a2 < 0 then (muldiv_quotient.j1 kj4 a2 a3 true bt106.1 bt106.2) else (muldiv_quotient.j1 kj4 a2 a3 false bt106.1 bt106.2))))) = some (r1, r2) := H
    have A10 := Aside0.mk A100
    clear A100
    replace H := Option.bind_eq_some_iff.mp H
    obtain ⟨⟨t106, t107⟩, A110, H⟩ := H
    replace H : (if a0 < 0 then (if a1 < 0 then (if a2 < 0 then (muldiv_quotient.j1 kj4 a2 a3 true t106 t107) else (muldiv_quotient.j1 kj4 a2 a3 false t106 t107)) else (if a2 < 0 then (muldiv_quotient.j1 kj4 a2 a3 false t106 t107) else (muldiv_quotient.j1 kj4 a2 a3 true t106 t107))) else (if a1 < 0 then (if a2 < 0 then (muldiv_quotient.j1 kj4 a2 a3 false t106 t107) else (muldiv_quotient.j1 kj4 a2 a3 true t106 t107)) else (if a2 < 0 then (muldiv_quotient.j1 kj4 a2 a3 true t106 t107) else (muldiv_quotient.j1 kj4 a2 a3 false t106 t107)))) = some (r1, r2) := H
    have A11 := Aside0.mk A110
    clear A110
    have HC12 := Aside0.mk H
    clear H
    go_upto_region 5 with (first | ((with_reducible refine gate_dst (N := 10) rfl ?_); refine box_event ?hg (N := 10) ?hd (cs := #[.int .u64 0, .int .u64 0]) (t := 76) ?hr ?_; (case hd => rfl); (case hg => rfl); (case hr => first | (go_simp; done) | (go_simp; rfl)); intro gb103 hg w13 hbox hb; have n0_ := Aside0.mk (below_step (by repeat (first | (with_reducible first | exact HB.out | apply below_alloc | apply pw_below_drewN | apply below_drew1) | exact HB.out)) hb); have n1_ := Aside0.mk (hbox); have n2_ := Aside0.mk ((by rw [hg]; exact (below_size (by repeat (first | (with_reducible first | exact HB.out | apply below_alloc | apply pw_below_drewN | apply below_drew1) | exact HB.out))) : w.heap.size ≤ gb103)); have n3_ := Aside0.mk ((by rw [hg]; exact (below_size (by repeat (first | (with_reducible first | exact HB.out | apply below_alloc | apply pw_below_drewN | apply below_drew1) | exact HB.out))) : w.heap.size ≤ gb103)); clear HB; have HB := n0_; have BK103 := n1_; have GW103 := n2_; have GE103 := n3_; clear n0_ n1_ n2_ n3_; clear hb hbox hg) | ((with_reducible refine gate_callee (f := 37) rfl ?_); refine goesL_ (some 29) rfl rfl Try.func37 (by kernel_rfl) rfl #[.int .i64 a0] rfl (by (try simp only [List.map_toArray, List.map_cons, List.map_nil]); first | done | rfl | (simp only [List.length_drop, List.length_take]; rfl)) ?_; (with_reducible refine (muldiv_size.calls a0 t104 _ A9.out).mono ?_); rintro e w' ⟨rfl, ⟨nd, rfl⟩⟩; refine ⟨_, rfl, ?_⟩; (try (rw [drewN_self w13]; generalize hq_ : World.drewN w13 _ = w13; have n0_ : Aside0 (w13.heap[gb103]? = some (.cells #[.int .u64 0, .int .u64 0] 76 (0, 0))) := ⟨by rw [← hq_]; exact (by (with_reducible repeat (first | refine blk_drewN ?_ _ | refine blk_drew ?_ | refine blk_alloc ?_ _)); exact BK103.out)⟩; have n1_ : Aside0 (Below w.heap.size w w13) := ⟨by rw [← hq_]; exact (by repeat (first | (with_reducible first | exact HB.out | apply below_alloc | apply pw_below_drewN | apply below_drew1 | refine below_set ?_ GE103.out) | exact HB.out))⟩; clear BK103 HB hq_; have BK103 := n0_; have HB := n1_; clear n0_ n1_))) | ((with_reducible refine gate_callee (f := 37) rfl ?_); refine goesL_ (some 31) rfl rfl Try.func37 (by kernel_rfl) rfl #[.int .i64 a1] rfl (by (try simp only [List.map_toArray, List.map_cons, List.map_nil]); first | done | rfl | (simp only [List.length_drop, List.length_take]; rfl)) ?_; (with_reducible refine (muldiv_size.calls a1 t105 _ A10.out).mono ?_); rintro e w' ⟨rfl, ⟨nd, rfl⟩⟩; refine ⟨_, rfl, ?_⟩; (try (rw [drewN_self w13]; generalize hq_ : World.drewN w13 _ = w13; have n0_ : Aside0 (w13.heap[gb103]? = some (.cells #[.int .u64 0, .int .u64 0] 76 (0, 0))) := ⟨by rw [← hq_]; exact (by (with_reducible repeat (first | refine blk_drewN ?_ _ | refine blk_drew ?_ | refine blk_alloc ?_ _)); exact BK103.out)⟩; have n1_ : Aside0 (Below w.heap.size w w13) := ⟨by rw [← hq_]; exact (by repeat (first | (with_reducible first | exact HB.out | apply below_alloc | apply pw_below_drewN | apply below_drew1 | refine below_set ?_ GE103.out) | exact HB.out))⟩; clear BK103 HB hq_; have BK103 := n0_; have HB := n1_; clear n0_ n1_))) | ((with_reducible refine gate_callee (f := 36) rfl ?_); refine goesL_ (some 32) rfl rfl Try.func36 (by kernel_rfl) rfl #[.int .u64 t104, .int .u64 t105] rfl (by (try simp only [List.map_toArray, List.map_cons, List.map_nil]); first | done | rfl | (simp only [List.length_drop, List.length_take]; rfl)) ?_; (with_reducible refine (bits_Mul64.calls t104 t105 t106 t107 _ A11.out).mono ?_); rintro e w' ⟨rfl, ⟨nd, rfl⟩⟩; refine ⟨_, rfl, ?_⟩; (try (rw [drewN_self w13]; generalize hq_ : World.drewN w13 _ = w13; have n0_ : Aside0 (w13.heap[gb103]? = some (.cells #[.int .u64 0, .int .u64 0] 76 (0, 0))) := ⟨by rw [← hq_]; exact (by (with_reducible repeat (first | refine blk_drewN ?_ _ | refine blk_drew ?_ | refine blk_alloc ?_ _)); exact BK103.out)⟩; have n1_ : Aside0 (Below w.heap.size w w13) := ⟨by rw [← hq_]; exact (by repeat (first | (with_reducible first | exact HB.out | apply below_alloc | apply pw_below_drewN | apply below_drew1 | refine below_set ?_ GE103.out) | exact HB.out))⟩; clear BK103 HB hq_; have BK103 := n0_; have HB := n1_; clear n0_ n1_)); have hcz14_0 : w13.cell? ⟨gb103, 0, none⟩ = some (.int .u64 0) := (blk_cell BK103.out 0).trans rfl; have hcz14_1 : w13.cell? ⟨gb103, 1, none⟩ = some (.int .u64 0) := (blk_cell BK103.out 1).trans rfl; have hfz14_0 := blk_frozen BK103.out 0; have hfz14_1 := blk_frozen BK103.out 1))
    (try simp only [Act.put, List.setIfInBounds_toArray, List.set_cons_zero, List.set_cons_succ])
    go_cut [11] (fun v11 wc => ∃ (kq : Nat) (x11_11 : Bool), v11 = .bool x11_11 ∧ Aside0 (muldiv_quotient.j1 kq a2 a3 x11_11 t106 t107 = some (r1, r2)) ∧ Aside0 (kq ≤ kj4) ∧ Aside0 (wc.heap[gb103]? = some (.cells #[.int .u64 t106, .int .u64 t107] 76 (0, 0))) ∧ Aside0 (Below w.heap.size w wc))
    case first =>
     have H := HC12.out
     clear HC12
     by_cases c15 : a0 < 0
     ·rw [if_pos c15] at H
      have c15b0 : decide (a0 < 0) = true := decide_eq_true c15
      clear c15
      (first | rw [c15b0] | (simp only [i64_w, i32_w]; rw [c15b0]) | skip)
      by_cases c16 : a1 < 0
      ·rw [if_pos c16] at H
       have c16b0 : decide (a1 < 0) = true := decide_eq_true c16
       clear c16
       by_cases c17 : a2 < 0
       ·rw [if_pos c17] at H
        have c17b0 : decide (a2 < 0) = true := decide_eq_true c17
        clear c17
        have H' := Aside0.mk H
        clear H
        go_wp2
        go_meet
        case rel => exact ⟨_, (true), (by first | rfl | (simp; done) | (simp [*]; done)), H', ⟨by have := HJ4.out; first | omega | exact Nat.le_refl _⟩, ⟨by (with_reducible repeat (first | refine blk_drewN ?_ _ | refine blk_drew ?_ | refine blk_alloc ?_ _)); refine blk_put (cs := #[.int .u64 t106, .int .u64 0]) ?_ 1 _ rfl; (with_reducible repeat (first | refine blk_drewN ?_ _ | refine blk_drew ?_ | refine blk_alloc ?_ _)); refine blk_put (cs := #[.int .u64 0, .int .u64 0]) ?_ 0 _ rfl; (with_reducible repeat (first | refine blk_drewN ?_ _ | refine blk_drew ?_ | refine blk_alloc ?_ _)); exact BK103.out⟩, ⟨by repeat (first | (with_reducible first | exact HB.out | apply below_alloc | apply pw_below_drewN | apply below_drew1 | refine below_set ?_ GE103.out) | exact HB.out)⟩⟩
       ·rw [if_neg c17] at H
        have c17b0 : decide (a2 < 0) = false := decide_eq_false c17
        clear c17
        have H' := Aside0.mk H
        clear H
        go_wp2
        go_meet
        case rel => exact ⟨_, (false), (by first | rfl | (simp; done) | (simp [*]; done)), H', ⟨by have := HJ4.out; first | omega | exact Nat.le_refl _⟩, ⟨by (with_reducible repeat (first | refine blk_drewN ?_ _ | refine blk_drew ?_ | refine blk_alloc ?_ _)); refine blk_put (cs := #[.int .u64 t106, .int .u64 0]) ?_ 1 _ rfl; (with_reducible repeat (first | refine blk_drewN ?_ _ | refine blk_drew ?_ | refine blk_alloc ?_ _)); refine blk_put (cs := #[.int .u64 0, .int .u64 0]) ?_ 0 _ rfl; (with_reducible repeat (first | refine blk_drewN ?_ _ | refine blk_drew ?_ | refine blk_alloc ?_ _)); exact BK103.out⟩, ⟨by repeat (first | (with_reducible first | exact HB.out | apply below_alloc | apply pw_below_drewN | apply below_drew1 | refine below_set ?_ GE103.out) | exact HB.out)⟩⟩
      ·rw [if_neg c16] at H
       have c16b0 : decide (a1 < 0) = false := decide_eq_false c16
       clear c16
       by_cases c18 : a2 < 0
       ·rw [if_pos c18] at H
        have c18b0 : decide (a2 < 0) = true := decide_eq_true c18
        clear c18
        have H' := Aside0.mk H
        clear H
        go_wp2
        go_meet
        case rel => exact ⟨_, (false), (by first | rfl | (simp; done) | (simp [*]; done)), H', ⟨by have := HJ4.out; first | omega | exact Nat.le_refl _⟩, ⟨by (with_reducible repeat (first | refine blk_drewN ?_ _ | refine blk_drew ?_ | refine blk_alloc ?_ _)); refine blk_put (cs := #[.int .u64 t106, .int .u64 0]) ?_ 1 _ rfl; (with_reducible repeat (first | refine blk_drewN ?_ _ | refine blk_drew ?_ | refine blk_alloc ?_ _)); refine blk_put (cs := #[.int .u64 0, .int .u64 0]) ?_ 0 _ rfl; (with_reducible repeat (first | refine blk_drewN ?_ _ | refine blk_drew ?_ | refine blk_alloc ?_ _)); exact BK103.out⟩, ⟨by repeat (first | (with_reducible first | exact HB.out | apply below_alloc | apply pw_below_drewN | apply below_drew1 | refine below_set ?_ GE103.out) | exact HB.out)⟩⟩
       ·rw [if_neg c18] at H
        have c18b0 : decide (a2 < 0) = false := decide_eq_false c18
        clear c18
        have H' := Aside0.mk H
        clear H
        go_wp2
        go_meet
        case rel => exact ⟨_, (true), (by first | rfl | (simp; done) | (simp [*]; done)), H', ⟨by have := HJ4.out; first | omega | exact Nat.le_refl _⟩, ⟨by (with_reducible repeat (first | refine blk_drewN ?_ _ | refine blk_drew ?_ | refine blk_alloc ?_ _)); refine blk_put (cs := #[.int .u64 t106, .int .u64 0]) ?_ 1 _ rfl; (with_reducible repeat (first | refine blk_drewN ?_ _ | refine blk_drew ?_ | refine blk_alloc ?_ _)); refine blk_put (cs := #[.int .u64 0, .int .u64 0]) ?_ 0 _ rfl; (with_reducible repeat (first | refine blk_drewN ?_ _ | refine blk_drew ?_ | refine blk_alloc ?_ _)); exact BK103.out⟩, ⟨by repeat (first | (with_reducible first | exact HB.out | apply below_alloc | apply pw_below_drewN | apply below_drew1 | refine below_set ?_ GE103.out) | exact HB.out)⟩⟩
     ·rw [if_neg c15] at H
      have c15b0 : decide (a0 < 0) = false := decide_eq_false c15
      clear c15
      (first | rw [c15b0] | (simp only [i64_w, i32_w]; rw [c15b0]) | skip)
      by_cases c19 : a1 < 0
      ·rw [if_pos c19] at H
       have c19b0 : decide (a1 < 0) = true := decide_eq_true c19
       clear c19
       by_cases c20 : a2 < 0
       ·rw [if_pos c20] at H
        have c20b0 : decide (a2 < 0) = true := decide_eq_true c20
        clear c20
        have H' := Aside0.mk H
        clear H
        go_wp2
        go_meet
        case rel => exact ⟨_, (false), (by first | rfl | (simp; done) | (simp [*]; done)), H', ⟨by have := HJ4.out; first | omega | exact Nat.le_refl _⟩, ⟨by (with_reducible repeat (first | refine blk_drewN ?_ _ | refine blk_drew ?_ | refine blk_alloc ?_ _)); refine blk_put (cs := #[.int .u64 t106, .int .u64 0]) ?_ 1 _ rfl; (with_reducible repeat (first | refine blk_drewN ?_ _ | refine blk_drew ?_ | refine blk_alloc ?_ _)); refine blk_put (cs := #[.int .u64 0, .int .u64 0]) ?_ 0 _ rfl; (with_reducible repeat (first | refine blk_drewN ?_ _ | refine blk_drew ?_ | refine blk_alloc ?_ _)); exact BK103.out⟩, ⟨by repeat (first | (with_reducible first | exact HB.out | apply below_alloc | apply pw_below_drewN | apply below_drew1 | refine below_set ?_ GE103.out) | exact HB.out)⟩⟩
       ·rw [if_neg c20] at H
        have c20b0 : decide (a2 < 0) = false := decide_eq_false c20
        clear c20
        have H' := Aside0.mk H
        clear H
        go_wp2
        go_meet
        case rel => exact ⟨_, (true), (by first | rfl | (simp; done) | (simp [*]; done)), H', ⟨by have := HJ4.out; first | omega | exact Nat.le_refl _⟩, ⟨by (with_reducible repeat (first | refine blk_drewN ?_ _ | refine blk_drew ?_ | refine blk_alloc ?_ _)); refine blk_put (cs := #[.int .u64 t106, .int .u64 0]) ?_ 1 _ rfl; (with_reducible repeat (first | refine blk_drewN ?_ _ | refine blk_drew ?_ | refine blk_alloc ?_ _)); refine blk_put (cs := #[.int .u64 0, .int .u64 0]) ?_ 0 _ rfl; (with_reducible repeat (first | refine blk_drewN ?_ _ | refine blk_drew ?_ | refine blk_alloc ?_ _)); exact BK103.out⟩, ⟨by repeat (first | (with_reducible first | exact HB.out | apply below_alloc | apply pw_below_drewN | apply below_drew1 | refine below_set ?_ GE103.out) | exact HB.out)⟩⟩
      ·rw [if_neg c19] at H
       have c19b0 : decide (a1 < 0) = false := decide_eq_false c19
       clear c19
       by_cases c21 : a2 < 0
       ·rw [if_pos c21] at H
        have c21b0 : decide (a2 < 0) = true := decide_eq_true c21
        clear c21
        have H' := Aside0.mk H
        clear H
        go_wp2
        go_meet
        case rel => exact ⟨_, (true), (by first | rfl | (simp; done) | (simp [*]; done)), H', ⟨by have := HJ4.out; first | omega | exact Nat.le_refl _⟩, ⟨by (with_reducible repeat (first | refine blk_drewN ?_ _ | refine blk_drew ?_ | refine blk_alloc ?_ _)); refine blk_put (cs := #[.int .u64 t106, .int .u64 0]) ?_ 1 _ rfl; (with_reducible repeat (first | refine blk_drewN ?_ _ | refine blk_drew ?_ | refine blk_alloc ?_ _)); refine blk_put (cs := #[.int .u64 0, .int .u64 0]) ?_ 0 _ rfl; (with_reducible repeat (first | refine blk_drewN ?_ _ | refine blk_drew ?_ | refine blk_alloc ?_ _)); exact BK103.out⟩, ⟨by repeat (first | (with_reducible first | exact HB.out | apply below_alloc | apply pw_below_drewN | apply below_drew1 | refine below_set ?_ GE103.out) | exact HB.out)⟩⟩
       ·rw [if_neg c21] at H
        have c21b0 : decide (a2 < 0) = false := decide_eq_false c21
        clear c21
        have H' := Aside0.mk H
        clear H
        go_wp2
        go_meet
        case rel => exact ⟨_, (false), (by first | rfl | (simp; done) | (simp [*]; done)), H', ⟨by have := HJ4.out; first | omega | exact Nat.le_refl _⟩, ⟨by (with_reducible repeat (first | refine blk_drewN ?_ _ | refine blk_drew ?_ | refine blk_alloc ?_ _)); refine blk_put (cs := #[.int .u64 t106, .int .u64 0]) ?_ 1 _ rfl; (with_reducible repeat (first | refine blk_drewN ?_ _ | refine blk_drew ?_ | refine blk_alloc ?_ _)); refine blk_put (cs := #[.int .u64 0, .int .u64 0]) ?_ 0 _ rfl; (with_reducible repeat (first | refine blk_drewN ?_ _ | refine blk_drew ?_ | refine blk_alloc ?_ _)); exact BK103.out⟩, ⟨by repeat (first | (with_reducible first | exact HB.out | apply below_alloc | apply pw_below_drewN | apply below_drew1 | refine below_set ?_ GE103.out) | exact HB.out)⟩⟩
    case rest =>
     clear HC12
     try clear c1
     try clear c2
     try clear p2
     try clear c3
     try clear c6
     try clear c6b0
     try clear c6b1
     try clear c7
     try clear c7b0
     try clear c8
     try clear c15
     try clear c15b0
     try clear c16
     try clear c16b0
     try clear c17
     try clear c17b0
     try clear c18
     try clear c18b0
     try clear c19
     try clear c19b0
     try clear c20
     try clear c20b0
     try clear c21
     try clear c21b0
     try clear hcz14_0
     try clear hcz14_1
     try clear hfz14_0
     try clear hfz14_1
     try clear p2
     obtain ⟨kq, x11_11, rfl, HA, HJ11, BK103, HB⟩ := hcut
     cases kq with
     | zero => exact absurd HA.out (by simp [muldiv_quotient.j1])
     | succ kj11 =>
      have H := HA.out
      clear HA
      simp only [muldiv_quotient.j1] at H
      replace H := Option.bind_eq_some_iff.mp H
      obtain ⟨t108, A220, H⟩ := H
      replace H : ((muldiv_divided.f t106 t107 t108).bind fun bt109 => ((muldiv_size.f a2).bind fun t113 => ((muldiv_up.f bt109.2.2 t113 x11_11 a3).bind fun t114 => (if t114 = true then (muldiv_quotient.j2 kj11 x11_11 (IntKind.u64.wrap (bt109.1 + (add64c bt109.2.1 1 0))) (add64s bt109.2.1 1 0)) else (muldiv_quotient.j2 kj11 x11_11 bt109.1 bt109.2.1))))) = some (r1, r2) := H
      have A22 := Aside0.mk A220
      clear A220
      replace H := Option.bind_eq_some_iff.mp H
      obtain ⟨⟨t109, t110, t111⟩, A230, H⟩ := H
      replace H : ((muldiv_size.f a2).bind fun t113 => ((muldiv_up.f t111 t113 x11_11 a3).bind fun t114 => (if t114 = true then (muldiv_quotient.j2 kj11 x11_11 (IntKind.u64.wrap (t109 + (add64c t110 1 0))) (add64s t110 1 0)) else (muldiv_quotient.j2 kj11 x11_11 t109 t110)))) = some (r1, r2) := H
      have A23 := Aside0.mk A230
      clear A230
      replace H := Option.bind_eq_some_iff.mp H
      obtain ⟨t113, A240, H⟩ := H
      replace H : ((muldiv_up.f t111 t113 x11_11 a3).bind fun t114 => (if t114 = true then (muldiv_quotient.j2 kj11 x11_11 (IntKind.u64.wrap (t109 + (add64c t110 1 0))) (add64s t110 1 0)) else (muldiv_quotient.j2 kj11 x11_11 t109 t110))) = some (r1, r2) := H
      have A24 := Aside0.mk A240
      clear A240
      replace H := Option.bind_eq_some_iff.mp H
      obtain ⟨t114, A250, H⟩ := H
      replace H : (if t114 = true then (muldiv_quotient.j2 kj11 x11_11 (IntKind.u64.wrap (t109 + (add64c t110 1 0))) (add64s t110 1 0)) else (muldiv_quotient.j2 kj11 x11_11 t109 t110)) = some (r1, r2) := H
      have A25 := Aside0.mk A250
      clear A250
      have HC26 := Aside0.mk H
      clear H
      try go_wp2
      have n0_ := Aside0.mk (blk_drew BK103.out)
      have n1_ := Aside0.mk (below_drew1 HB.out)
      clear BK103
      clear HB
      have BK103 := n0_
      have HB := n1_
      clear n0_ n1_
      refine start_ (n := 10) (S := fun w' => w'.cell? ⟨gb103, 0, none⟩ = some (.int .u64 t106) ∧ w'.cell? ⟨gb103, 1, none⟩ = some (.int .u64 t107)) (ds := []) #[false, false, false, false, false, false, false, false, false, false] (by kernel_rfl) rfl rfl ⟨(blk_cell BK103.out 0).trans rfl, (blk_cell BK103.out 1).trans rfl⟩ (fun hHeld => ?_); refine with_tabW muldiv_quotient.tab6 muldiv_quotient.bits6 (fun HT_ HW_ => ?_)
      generalize wc.drew = w27 at BK103 HB hHeld ⊢
      refine pure_ (i := 1) (N := some 47) (v := ?_) (a' := ?_) #[false, true, false, false, false, false, false, false, false, false] rfl rfl (any_of HT_.out (by kernel_rfl)) (fun _ _ _ h => h) (Or.inl ⟨by rfl, ?_⟩) ?_ ?_
      rotate_left
      ·intro w'
       go_simp
       with_reducible rfl
      rotate_left
      ·simp only [Act.put, List.setIfInBounds_toArray, List.set_cons_zero, List.set_cons_succ, i64_w, i32_w]
       rfl
      refine take_ (i := 0) (N := some 46) (v := ?_) (a' := ?_) #[true, true, false, false, false, false, false, false, false, false] rfl rfl (take_ofW HT_.out HW_.out (by kernel_rfl)) (fun _ _ _ h => h) (Or.inl ⟨by rfl, ?_⟩) hHeld ?_ ?_
      rotate_left
      ·rintro w' ⟨s0, s1⟩
       go_simp
       with_reducible rfl
      rotate_left
      ·simp only [Act.put, List.setIfInBounds_toArray, List.set_cons_zero, List.set_cons_succ, i64_w, i32_w]
       rfl
      refine join_ (σ := Nat) 2 #[true, true, true, true, true, true, true, true, false, false] (fun s_ => [(48, .int .u64 t108), (49, .tuple #[.agg #[.int .u64 t109, .int .u64 t110], .int .u64 t111]), (12, .pointer (some ⟨s_, 0, none⟩)), (45, .tuple #[.agg #[.int .u64 t109, .int .u64 t110], .int .u64 t111]), (50, .agg #[.int .u64 t109, .int .u64 t110]), (51, .int .u64 t111)]) (fun s_ w' => (w'.cell? ⟨gb103, 0, none⟩ = some (.int .u64 t106) ∧ w'.cell? ⟨gb103, 1, none⟩ = some (.int .u64 t107)) ∧ (w'.heap[gb103]? = some (.cells #[.int .u64 t106, .int .u64 t107] 76 (0, 0))) ∧ (w'.heap[s_]? = some (.cells #[.int .u64 0, .int .u64 0] 76 (0, 0))) ∧ (w.heap.size ≤ s_) ∧ (w.heap.size ≤ s_) ∧ (gb103 ≠ s_) ∧ (s_ ≠ gb103) ∧ (Below w.heap.size w w')) ?_ ?_
      rotate_left
      ·intro hCont
       refine two_ (i := 2) (j := 7) (Ni := some 48) (Nj := some 12) #[true, true, true, false, false, false, false, false, false, false] #[true, true, false, false, false, false, false, true, false, false] rfl rfl rfl rfl (two_of HT_.out (by kernel_rfl)) (by decide) (by decide) (fun K hK => ?_) (fun K hK => ?_)
       ·skip
        refine goes_ Try.func37 (by kernel_rfl) rfl #[.int .i64 a2] (by rfl) rfl rfl (by (try simp only [List.map_toArray, List.map_cons, List.map_nil]); first | done | rfl | (simp only [List.length_drop, List.length_take]; rfl)) ?_
        with_reducible refine (muldiv_size.calls a2 t108 _ A22.out).mono ?_
        rintro e w' ⟨rfl, ⟨nd, rfl⟩⟩
        refine ⟨_, rfl, ?_⟩
        refine hK.out _ _ ⟨(blk_cell BK103.out 0).trans rfl, (blk_cell BK103.out 1).trans rfl⟩ (fun hHeld => ?_)
        clear hK K
        refine norm_ (a' := ?_) ?_ ?_
        rotate_left
        ·show Act.put _ (some 48) _ = _
         simp only [Act.put, List.setIfInBounds_toArray, List.set_cons_zero, List.set_cons_succ, i64_w, i32_w]
         rfl
        refine two_ (i := 3) (j := 7) (Ni := some 49) (Nj := some 12) #[true, true, true, true, false, false, false, false, false, false] #[true, true, true, false, false, false, false, true, false, false] rfl rfl rfl rfl (two_of HT_.out (by kernel_rfl)) (by decide) (by decide) (fun K hK => ?_) (fun K hK => ?_)
        ·skip
         refine goes_ Try.func38 (by kernel_rfl) rfl #[.agg #[.int .u64 t106, .int .u64 t107], .int .u64 t108] (by rfl) rfl rfl (by (try simp only [List.map_toArray, List.map_cons, List.map_nil]); first | done | rfl | (simp only [List.length_drop, List.length_take]; rfl)) ?_
         with_reducible refine (muldiv_divided.calls t106 t107 t108 t109 t110 t111 _ A23.out).mono ?_
         rintro e w28 ⟨rfl, hb⟩
         refine ⟨_, rfl, ?_⟩
         have n0_ := Aside0.mk (blk_below (g := gb103) (o := .cells #[.int .u64 t106, .int .u64 t107] 76 (0, 0)) (by (with_reducible repeat (first | refine blk_drewN ?_ _ | refine blk_drew ?_ | refine blk_alloc ?_ _)); exact BK103.out) hb)
         have n1_ := Aside0.mk (below_step (by repeat (first | (with_reducible first | exact HB.out | apply below_alloc | apply pw_below_drewN | apply below_drew1 | refine below_set ?_ GE103.out) | exact HB.out)) hb)
         clear BK103
         clear HB
         have BK103 := n0_
         have HB := n1_
         clear n0_ n1_
         (try clear hb)
         (try clear hb2)
         (try clear hk)
         (try clear hi)
         refine hK.out _ _ ⟨(blk_cell BK103.out 0).trans rfl, (blk_cell BK103.out 1).trans rfl⟩ (fun hHeld => ?_)
         clear hK K
         refine norm_ (a' := ?_) ?_ ?_
         rotate_left
         ·show Act.put _ (some 49) _ = _
          simp only [Act.put, List.setIfInBounds_toArray, List.set_cons_zero, List.set_cons_succ, i64_w, i32_w]
          rfl
         refine pure_ (i := 4) (N := some 45) (v := ?_) (a' := ?_) #[true, true, true, true, true, false, false, false, false, false] rfl rfl (any_of HT_.out (by kernel_rfl)) (fun _ _ _ h => h) (Or.inl ⟨by rfl, ?_⟩) ?_ ?_
         rotate_left
         ·intro w'
          go_simp
          with_reducible rfl
         rotate_left
         ·simp only [Act.put, List.setIfInBounds_toArray, List.set_cons_zero, List.set_cons_succ, i64_w, i32_w]
          rfl
         refine pure_ (i := 5) (N := some 50) (v := ?_) (a' := ?_) #[true, true, true, true, true, true, false, false, false, false] rfl rfl (any_of HT_.out (by kernel_rfl)) (fun _ _ _ h => h) (Or.inl ⟨by rfl, ?_⟩) ?_ ?_
         rotate_left
         ·intro w'
          go_simp
          with_reducible rfl
         rotate_left
         ·simp only [Act.put, List.setIfInBounds_toArray, List.set_cons_zero, List.set_cons_succ, i64_w, i32_w]
          rfl
         refine pure_ (i := 6) (N := some 51) (v := ?_) (a' := ?_) #[true, true, true, true, true, true, true, false, false, false] rfl rfl (any_of HT_.out (by kernel_rfl)) (fun _ _ _ h => h) (Or.inl ⟨by rfl, ?_⟩) ?_ ?_
         rotate_left
         ·intro w'
          go_simp
          with_reducible rfl
         rotate_left
         ·simp only [Act.put, List.setIfInBounds_toArray, List.set_cons_zero, List.set_cons_succ, i64_w, i32_w]
          rfl
         refine one_ (i := 7) (N := some 12) #[true, true, true, true, true, true, true, true, false, false] rfl rfl (one_of HT_.out (by kernel_rfl)) (by decide) (fun K hK => ?_)
         refine box_step ?hg (N := 12) ?hd (cs := #[.int .u64 0, .int .u64 0]) (t := 76) ?hr ?_; (case hd => rfl); (case hg => rfl); (case hr => first | (go_simp; done) | (go_simp; rfl))
         intro gb112 hg w29 hbox hb
         have n0_ := Aside0.mk (blk_below (g := gb103) (o := .cells #[.int .u64 t106, .int .u64 t107] 76 (0, 0)) (by (with_reducible repeat (first | refine blk_drewN ?_ _ | refine blk_drew ?_ | refine blk_alloc ?_ _)); exact BK103.out) hb)
         have n1_ := Aside0.mk (below_step (by repeat (first | (with_reducible first | exact HB.out | apply below_alloc | apply pw_below_drewN | apply below_drew1 | refine below_set ?_ GE103.out) | exact HB.out)) hb)
         have n2_ := Aside0.mk (hbox)
         have n3_ := Aside0.mk ((by rw [hg]; exact (below_size (by repeat (first | (with_reducible first | exact HB.out | apply below_alloc | apply pw_below_drewN | apply below_drew1 | refine below_set ?_ GE103.out) | exact HB.out))) : w.heap.size ≤ gb112))
         have n4_ := Aside0.mk ((by rw [hg]; exact (below_size (by repeat (first | (with_reducible first | exact HB.out | apply below_alloc | apply pw_below_drewN | apply below_drew1 | refine below_set ?_ GE103.out) | exact HB.out))) : w.heap.size ≤ gb112))
         have n5_ := Aside0.mk ((by rw [hg]; exact Nat.ne_of_lt (blk_lt (g := gb103) (o := .cells #[.int .u64 t106, .int .u64 t107] 76 (0, 0)) (by (with_reducible repeat (first | refine blk_drewN ?_ _ | refine blk_drew ?_ | refine blk_alloc ?_ _)); exact BK103.out)) : gb103 ≠ gb112))
         have n6_ := Aside0.mk ((by rw [hg]; exact Nat.ne_of_gt (blk_lt (g := gb103) (o := .cells #[.int .u64 t106, .int .u64 t107] 76 (0, 0)) (by (with_reducible repeat (first | refine blk_drewN ?_ _ | refine blk_drew ?_ | refine blk_alloc ?_ _)); exact BK103.out)) : gb112 ≠ gb103))
         clear BK103
         clear HB
         have BK103 := n0_
         have HB := n1_
         have BK112 := n2_
         have GW112 := n3_
         have GE112 := n4_
         have NB103_112 := n5_
         have NB112_103 := n6_
         clear n0_ n1_ n2_ n3_ n4_ n5_ n6_
         clear hb hbox hg
         refine hK.out _ _ ⟨(blk_cell BK103.out 0).trans rfl, (blk_cell BK103.out 1).trans rfl⟩ (fun hHeld => ?_)
         clear hK K
         refine norm_ (a' := ?_) ?_ ?_
         rotate_left
         ·show Act.put _ (some 12) _ = _
          simp only [Act.put, List.setIfInBounds_toArray, List.set_cons_zero, List.set_cons_succ, i64_w, i32_w]
          rfl
         exact norm_ (by simp only [putAll, Act.put, List.setIfInBounds_toArray, List.set_cons_zero, List.set_cons_succ]) (hCont (gb112) _ ⟨hHeld, (by (with_reducible repeat (first | refine blk_drewN ?_ _ | refine blk_drew ?_ | refine blk_alloc ?_ _)); exact BK103.out), (by (with_reducible repeat (first | refine blk_drewN ?_ _ | refine blk_drew ?_ | refine blk_alloc ?_ _)); exact BK112.out), GW112.out, GE112.out, NB103_112.out, NB112_103.out, (by repeat (first | (with_reducible first | exact HB.out | apply below_alloc | apply pw_below_drewN | apply below_drew1 | refine below_set ?_ GE103.out | refine below_set ?_ GE112.out) | exact HB.out))⟩)
        ·skip
         refine box_step ?hg (N := 12) ?hd (cs := #[.int .u64 0, .int .u64 0]) (t := 76) ?hr ?_; (case hd => rfl); (case hg => rfl); (case hr => first | (go_simp; done) | (go_simp; rfl))
         intro gb112 hg w28 hbox hb
         have n0_ := Aside0.mk (blk_below (g := gb103) (o := .cells #[.int .u64 t106, .int .u64 t107] 76 (0, 0)) (by (with_reducible repeat (first | refine blk_drewN ?_ _ | refine blk_drew ?_ | refine blk_alloc ?_ _)); exact BK103.out) hb)
         have n1_ := Aside0.mk (below_step (by repeat (first | (with_reducible first | exact HB.out | apply below_alloc | apply pw_below_drewN | apply below_drew1 | refine below_set ?_ GE103.out) | exact HB.out)) hb)
         have n2_ := Aside0.mk (hbox)
         have n3_ := Aside0.mk ((by rw [hg]; exact (below_size (by repeat (first | (with_reducible first | exact HB.out | apply below_alloc | apply pw_below_drewN | apply below_drew1 | refine below_set ?_ GE103.out) | exact HB.out))) : w.heap.size ≤ gb112))
         have n4_ := Aside0.mk ((by rw [hg]; exact (below_size (by repeat (first | (with_reducible first | exact HB.out | apply below_alloc | apply pw_below_drewN | apply below_drew1 | refine below_set ?_ GE103.out) | exact HB.out))) : w.heap.size ≤ gb112))
         have n5_ := Aside0.mk ((by rw [hg]; exact Nat.ne_of_lt (blk_lt (g := gb103) (o := .cells #[.int .u64 t106, .int .u64 t107] 76 (0, 0)) (by (with_reducible repeat (first | refine blk_drewN ?_ _ | refine blk_drew ?_ | refine blk_alloc ?_ _)); exact BK103.out)) : gb103 ≠ gb112))
         have n6_ := Aside0.mk ((by rw [hg]; exact Nat.ne_of_gt (blk_lt (g := gb103) (o := .cells #[.int .u64 t106, .int .u64 t107] 76 (0, 0)) (by (with_reducible repeat (first | refine blk_drewN ?_ _ | refine blk_drew ?_ | refine blk_alloc ?_ _)); exact BK103.out)) : gb112 ≠ gb103))
         clear BK103
         clear HB
         have BK103 := n0_
         have HB := n1_
         have BK112 := n2_
         have GW112 := n3_
         have GE112 := n4_
         have NB103_112 := n5_
         have NB112_103 := n6_
         clear n0_ n1_ n2_ n3_ n4_ n5_ n6_
         clear hb hbox hg
         refine hK.out _ _ ⟨(blk_cell BK103.out 0).trans rfl, (blk_cell BK103.out 1).trans rfl⟩ (fun hHeld => ?_)
         clear hK K
         refine norm_ (a' := ?_) ?_ ?_
         rotate_left
         ·show Act.put _ (some 12) _ = _
          simp only [Act.put, List.setIfInBounds_toArray, List.set_cons_zero, List.set_cons_succ, i64_w, i32_w]
          rfl
         refine one_ (i := 3) (N := some 49) #[true, true, true, true, false, false, false, true, false, false] rfl rfl (one_of HT_.out (by kernel_rfl)) (by decide) (fun K hK => ?_)
         refine goes_ Try.func38 (by kernel_rfl) rfl #[.agg #[.int .u64 t106, .int .u64 t107], .int .u64 t108] (by rfl) rfl rfl (by (try simp only [List.map_toArray, List.map_cons, List.map_nil]); first | done | rfl | (simp only [List.length_drop, List.length_take]; rfl)) ?_
         with_reducible refine (muldiv_divided.calls t106 t107 t108 t109 t110 t111 _ A23.out).mono ?_
         rintro e w29 ⟨rfl, hb⟩
         refine ⟨_, rfl, ?_⟩
         have n0_ := Aside0.mk (blk_below (g := gb103) (o := .cells #[.int .u64 t106, .int .u64 t107] 76 (0, 0)) (by (with_reducible repeat (first | refine blk_drewN ?_ _ | refine blk_drew ?_ | refine blk_alloc ?_ _)); exact BK103.out) hb)
         have n1_ := Aside0.mk (blk_below (g := gb112) (o := .cells #[.int .u64 0, .int .u64 0] 76 (0, 0)) (by (with_reducible repeat (first | refine blk_drewN ?_ _ | refine blk_drew ?_ | refine blk_alloc ?_ _)); exact BK112.out) hb)
         have n2_ := Aside0.mk (below_step (by repeat (first | (with_reducible first | exact HB.out | apply below_alloc | apply pw_below_drewN | apply below_drew1 | refine below_set ?_ GE103.out | refine below_set ?_ GE112.out) | exact HB.out)) hb)
         clear BK103
         clear BK112
         clear HB
         have BK103 := n0_
         have BK112 := n1_
         have HB := n2_
         clear n0_ n1_ n2_
         (try clear hb)
         (try clear hb2)
         (try clear hk)
         (try clear hi)
         refine hK.out _ _ ⟨(blk_cell BK103.out 0).trans rfl, (blk_cell BK103.out 1).trans rfl⟩ (fun hHeld => ?_)
         clear hK K
         refine norm_ (a' := ?_) ?_ ?_
         rotate_left
         ·show Act.put _ (some 49) _ = _
          simp only [Act.put, List.setIfInBounds_toArray, List.set_cons_zero, List.set_cons_succ, i64_w, i32_w]
          rfl
         refine pure_ (i := 4) (N := some 45) (v := ?_) (a' := ?_) #[true, true, true, true, true, false, false, true, false, false] rfl rfl (any_of HT_.out (by kernel_rfl)) (fun _ _ _ h => h) (Or.inl ⟨by rfl, ?_⟩) ?_ ?_
         rotate_left
         ·intro w'
          go_simp
          with_reducible rfl
         rotate_left
         ·simp only [Act.put, List.setIfInBounds_toArray, List.set_cons_zero, List.set_cons_succ, i64_w, i32_w]
          rfl
         refine pure_ (i := 5) (N := some 50) (v := ?_) (a' := ?_) #[true, true, true, true, true, true, false, true, false, false] rfl rfl (any_of HT_.out (by kernel_rfl)) (fun _ _ _ h => h) (Or.inl ⟨by rfl, ?_⟩) ?_ ?_
         rotate_left
         ·intro w'
          go_simp
          with_reducible rfl
         rotate_left
         ·simp only [Act.put, List.setIfInBounds_toArray, List.set_cons_zero, List.set_cons_succ, i64_w, i32_w]
          rfl
         refine pure_ (i := 6) (N := some 51) (v := ?_) (a' := ?_) #[true, true, true, true, true, true, true, true, false, false] rfl rfl (any_of HT_.out (by kernel_rfl)) (fun _ _ _ h => h) (Or.inl ⟨by rfl, ?_⟩) ?_ ?_
         rotate_left
         ·intro w'
          go_simp
          with_reducible rfl
         rotate_left
         ·simp only [Act.put, List.setIfInBounds_toArray, List.set_cons_zero, List.set_cons_succ, i64_w, i32_w]
          rfl
         exact norm_ (by simp only [putAll, Act.put, List.setIfInBounds_toArray, List.set_cons_zero, List.set_cons_succ]) (hCont (gb112) _ ⟨hHeld, (by (with_reducible repeat (first | refine blk_drewN ?_ _ | refine blk_drew ?_ | refine blk_alloc ?_ _)); exact BK103.out), (by (with_reducible repeat (first | refine blk_drewN ?_ _ | refine blk_drew ?_ | refine blk_alloc ?_ _)); exact BK112.out), GW112.out, GE112.out, NB103_112.out, NB112_103.out, (by repeat (first | (with_reducible first | exact HB.out | apply below_alloc | apply pw_below_drewN | apply below_drew1 | refine below_set ?_ GE103.out | refine below_set ?_ GE112.out) | exact HB.out))⟩)
       ·skip
        refine box_step ?hg (N := 12) ?hd (cs := #[.int .u64 0, .int .u64 0]) (t := 76) ?hr ?_; (case hd => rfl); (case hg => rfl); (case hr => first | (go_simp; done) | (go_simp; rfl))
        intro gb112 hg w28 hbox hb
        have n0_ := Aside0.mk (blk_below (g := gb103) (o := .cells #[.int .u64 t106, .int .u64 t107] 76 (0, 0)) (by (with_reducible repeat (first | refine blk_drewN ?_ _ | refine blk_drew ?_ | refine blk_alloc ?_ _)); exact BK103.out) hb)
        have n1_ := Aside0.mk (below_step (by repeat (first | (with_reducible first | exact HB.out | apply below_alloc | apply pw_below_drewN | apply below_drew1 | refine below_set ?_ GE103.out) | exact HB.out)) hb)
        have n2_ := Aside0.mk (hbox)
        have n3_ := Aside0.mk ((by rw [hg]; exact (below_size (by repeat (first | (with_reducible first | exact HB.out | apply below_alloc | apply pw_below_drewN | apply below_drew1 | refine below_set ?_ GE103.out) | exact HB.out))) : w.heap.size ≤ gb112))
        have n4_ := Aside0.mk ((by rw [hg]; exact (below_size (by repeat (first | (with_reducible first | exact HB.out | apply below_alloc | apply pw_below_drewN | apply below_drew1 | refine below_set ?_ GE103.out) | exact HB.out))) : w.heap.size ≤ gb112))
        have n5_ := Aside0.mk ((by rw [hg]; exact Nat.ne_of_lt (blk_lt (g := gb103) (o := .cells #[.int .u64 t106, .int .u64 t107] 76 (0, 0)) (by (with_reducible repeat (first | refine blk_drewN ?_ _ | refine blk_drew ?_ | refine blk_alloc ?_ _)); exact BK103.out)) : gb103 ≠ gb112))
        have n6_ := Aside0.mk ((by rw [hg]; exact Nat.ne_of_gt (blk_lt (g := gb103) (o := .cells #[.int .u64 t106, .int .u64 t107] 76 (0, 0)) (by (with_reducible repeat (first | refine blk_drewN ?_ _ | refine blk_drew ?_ | refine blk_alloc ?_ _)); exact BK103.out)) : gb112 ≠ gb103))
        clear BK103
        clear HB
        have BK103 := n0_
        have HB := n1_
        have BK112 := n2_
        have GW112 := n3_
        have GE112 := n4_
        have NB103_112 := n5_
        have NB112_103 := n6_
        clear n0_ n1_ n2_ n3_ n4_ n5_ n6_
        clear hb hbox hg
        refine hK.out _ _ ⟨(blk_cell BK103.out 0).trans rfl, (blk_cell BK103.out 1).trans rfl⟩ (fun hHeld => ?_)
        clear hK K
        refine norm_ (a' := ?_) ?_ ?_
        rotate_left
        ·show Act.put _ (some 12) _ = _
         simp only [Act.put, List.setIfInBounds_toArray, List.set_cons_zero, List.set_cons_succ, i64_w, i32_w]
         rfl
        refine one_ (i := 2) (N := some 48) #[true, true, true, false, false, false, false, true, false, false] rfl rfl (one_of HT_.out (by kernel_rfl)) (by decide) (fun K hK => ?_)
        refine goes_ Try.func37 (by kernel_rfl) rfl #[.int .i64 a2] (by rfl) rfl rfl (by (try simp only [List.map_toArray, List.map_cons, List.map_nil]); first | done | rfl | (simp only [List.length_drop, List.length_take]; rfl)) ?_
        with_reducible refine (muldiv_size.calls a2 t108 _ A22.out).mono ?_
        rintro e w' ⟨rfl, ⟨nd, rfl⟩⟩
        refine ⟨_, rfl, ?_⟩
        refine hK.out _ _ ⟨(blk_cell BK103.out 0).trans rfl, (blk_cell BK103.out 1).trans rfl⟩ (fun hHeld => ?_)
        clear hK K
        refine norm_ (a' := ?_) ?_ ?_
        rotate_left
        ·show Act.put _ (some 48) _ = _
         simp only [Act.put, List.setIfInBounds_toArray, List.set_cons_zero, List.set_cons_succ, i64_w, i32_w]
         rfl
        refine one_ (i := 3) (N := some 49) #[true, true, true, true, false, false, false, true, false, false] rfl rfl (one_of HT_.out (by kernel_rfl)) (by decide) (fun K hK => ?_)
        refine goes_ Try.func38 (by kernel_rfl) rfl #[.agg #[.int .u64 t106, .int .u64 t107], .int .u64 t108] (by rfl) rfl rfl (by (try simp only [List.map_toArray, List.map_cons, List.map_nil]); first | done | rfl | (simp only [List.length_drop, List.length_take]; rfl)) ?_
        with_reducible refine (muldiv_divided.calls t106 t107 t108 t109 t110 t111 _ A23.out).mono ?_
        rintro e w29 ⟨rfl, hb⟩
        refine ⟨_, rfl, ?_⟩
        have n0_ := Aside0.mk (blk_below (g := gb103) (o := .cells #[.int .u64 t106, .int .u64 t107] 76 (0, 0)) (by (with_reducible repeat (first | refine blk_drewN ?_ _ | refine blk_drew ?_ | refine blk_alloc ?_ _)); exact BK103.out) hb)
        have n1_ := Aside0.mk (blk_below (g := gb112) (o := .cells #[.int .u64 0, .int .u64 0] 76 (0, 0)) (by (with_reducible repeat (first | refine blk_drewN ?_ _ | refine blk_drew ?_ | refine blk_alloc ?_ _)); exact BK112.out) hb)
        have n2_ := Aside0.mk (below_step (by repeat (first | (with_reducible first | exact HB.out | apply below_alloc | apply pw_below_drewN | apply below_drew1 | refine below_set ?_ GE103.out | refine below_set ?_ GE112.out) | exact HB.out)) hb)
        clear BK103
        clear BK112
        clear HB
        have BK103 := n0_
        have BK112 := n1_
        have HB := n2_
        clear n0_ n1_ n2_
        (try clear hb)
        (try clear hb2)
        (try clear hk)
        (try clear hi)
        refine hK.out _ _ ⟨(blk_cell BK103.out 0).trans rfl, (blk_cell BK103.out 1).trans rfl⟩ (fun hHeld => ?_)
        clear hK K
        refine norm_ (a' := ?_) ?_ ?_
        rotate_left
        ·show Act.put _ (some 49) _ = _
         simp only [Act.put, List.setIfInBounds_toArray, List.set_cons_zero, List.set_cons_succ, i64_w, i32_w]
         rfl
        refine pure_ (i := 4) (N := some 45) (v := ?_) (a' := ?_) #[true, true, true, true, true, false, false, true, false, false] rfl rfl (any_of HT_.out (by kernel_rfl)) (fun _ _ _ h => h) (Or.inl ⟨by rfl, ?_⟩) ?_ ?_
        rotate_left
        ·intro w'
         go_simp
         with_reducible rfl
        rotate_left
        ·simp only [Act.put, List.setIfInBounds_toArray, List.set_cons_zero, List.set_cons_succ, i64_w, i32_w]
         rfl
        refine pure_ (i := 5) (N := some 50) (v := ?_) (a' := ?_) #[true, true, true, true, true, true, false, true, false, false] rfl rfl (any_of HT_.out (by kernel_rfl)) (fun _ _ _ h => h) (Or.inl ⟨by rfl, ?_⟩) ?_ ?_
        rotate_left
        ·intro w'
         go_simp
         with_reducible rfl
        rotate_left
        ·simp only [Act.put, List.setIfInBounds_toArray, List.set_cons_zero, List.set_cons_succ, i64_w, i32_w]
         rfl
        refine pure_ (i := 6) (N := some 51) (v := ?_) (a' := ?_) #[true, true, true, true, true, true, true, true, false, false] rfl rfl (any_of HT_.out (by kernel_rfl)) (fun _ _ _ h => h) (Or.inl ⟨by rfl, ?_⟩) ?_ ?_
        rotate_left
        ·intro w'
         go_simp
         with_reducible rfl
        rotate_left
        ·simp only [Act.put, List.setIfInBounds_toArray, List.set_cons_zero, List.set_cons_succ, i64_w, i32_w]
         rfl
        exact norm_ (by simp only [putAll, Act.put, List.setIfInBounds_toArray, List.set_cons_zero, List.set_cons_succ]) (hCont (gb112) _ ⟨hHeld, (by (with_reducible repeat (first | refine blk_drewN ?_ _ | refine blk_drew ?_ | refine blk_alloc ?_ _)); exact BK103.out), (by (with_reducible repeat (first | refine blk_drewN ?_ _ | refine blk_drew ?_ | refine blk_alloc ?_ _)); exact BK112.out), GW112.out, GE112.out, NB103_112.out, NB112_103.out, (by repeat (first | (with_reducible first | exact HB.out | apply below_alloc | apply pw_below_drewN | apply below_drew1 | refine below_set ?_ GE103.out | refine below_set ?_ GE112.out) | exact HB.out))⟩)
      rintro gb112 w30 ⟨hS_, h0_, h1_, h2_, h3_, h4_, h5_, h6_⟩
      have n0_ : Aside0 (w30.heap[gb103]? = some (.cells #[.int .u64 t106, .int .u64 t107] 76 (0, 0))) := ⟨h0_⟩
      have n1_ : Aside0 (w30.heap[gb112]? = some (.cells #[.int .u64 0, .int .u64 0] 76 (0, 0))) := ⟨h1_⟩
      have n2_ : Aside0 (w.heap.size ≤ gb112) := ⟨h2_⟩
      have n3_ : Aside0 (w.heap.size ≤ gb112) := ⟨h3_⟩
      have n4_ : Aside0 (gb103 ≠ gb112) := ⟨h4_⟩
      have n5_ : Aside0 (gb112 ≠ gb103) := ⟨h5_⟩
      have n6_ : Aside0 (Below w.heap.size w w30) := ⟨h6_⟩
      clear BK103
      clear HB
      clear h0_ h1_ h2_ h3_ h4_ h5_ h6_
      have BK103 := n0_
      have BK112 := n1_
      have GW112 := n2_
      have GE112 := n3_
      have NB103_112 := n4_
      have NB112_103 := n5_
      have HB := n6_
      clear n0_ n1_ n2_ n3_ n4_ n5_ n6_
      have hHeld : w30.cell? ⟨gb103, 0, none⟩ = some (.int .u64 t106) ∧ w30.cell? ⟨gb103, 1, none⟩ = some (.int .u64 t107) := hS_
      refine norm_ (a' := ?_) ?_ ?_
      rotate_left
      ·simp only [putAll, Act.put, List.setIfInBounds_toArray, List.set_cons_zero, List.set_cons_succ]
       rfl
      refine one_ (i := 8) (N := none) #[true, true, true, true, true, true, true, true, true, false] rfl rfl (one_of HT_.out (by kernel_rfl)) (by decide) (fun K hK => ?_)
      have hs31 : w30.cell? ⟨gb112, 0, none⟩ = some (.int .u64 0) := (blk_cell BK112.out 0).trans rfl
      have hfs31 := blk_frozen BK112.out 0
      have hns31_0 := NB103_112.out
      have hms31_0 := NB112_103.out
      have hs32 : w30.cell? ⟨gb112, 1, none⟩ = some (.int .u64 0) := (blk_cell BK112.out 1).trans rfl
      have hfs32 := blk_frozen BK112.out 1
      have hns32_0 := NB103_112.out
      have hms32_0 := NB112_103.out
      refine skip_ (w1 := ?_) (by rfl) rfl ?_ ?_
      rotate_left
      ·go_simp
       rfl
      refine hK.out _ _ ⟨((cell_far (p := ⟨gb112, _, none⟩) NB103_112.out _).trans (((cell_far (p := ⟨gb112, _, none⟩) NB103_112.out _).trans (hHeld.1)))), ((cell_far (p := ⟨gb112, _, none⟩) NB103_112.out _).trans (((cell_far (p := ⟨gb112, _, none⟩) NB103_112.out _).trans (hHeld.2))))⟩ (fun hHeld => ?_)
      clear hK K
      refine pure_ (i := 9) (N := some 13) (v := ?_) (a' := ?_) #[true, true, true, true, true, true, true, true, true, true] rfl rfl (any_of HT_.out (by kernel_rfl)) (fun _ _ _ h => h) (Or.inl ⟨by rfl, ?_⟩) ?_ ?_
      rotate_left
      ·intro w'
       go_simp
       with_reducible rfl
      rotate_left
      ·simp only [Act.put, List.setIfInBounds_toArray, List.set_cons_zero, List.set_cons_succ, i64_w, i32_w]
       rfl
      refine done_ (done_of HT_.out (by kernel_rfl)) ?_
      go_upto_if 57 with (first | ((with_reducible refine gate_callee (f := 37) rfl ?_); refine goesL_ (some 54) rfl rfl Try.func37 (by kernel_rfl) rfl #[.int .i64 a2] rfl (by (try simp only [List.map_toArray, List.map_cons, List.map_nil]); first | done | rfl | (simp only [List.length_drop, List.length_take]; rfl)) ?_; (with_reducible refine (muldiv_size.calls a2 t113 _ A24.out).mono ?_); rintro e w' ⟨rfl, ⟨nd, rfl⟩⟩; refine ⟨_, rfl, ?_⟩) | ((with_reducible refine gate_callee (f := 39) rfl ?_); refine goesL_ (some 57) rfl rfl Try.func39 (by kernel_rfl) rfl #[.int .u64 t111, .int .u64 t113, .bool x11_11, .int .i64 a3] rfl (by (try simp only [List.map_toArray, List.map_cons, List.map_nil]); first | done | rfl | (simp only [List.length_drop, List.length_take]; rfl)) ?_; (with_reducible refine (muldiv_up.calls t111 t113 x11_11 a3 t114 _ A25.out).mono ?_); rintro e w' ⟨rfl, ⟨nd, rfl⟩⟩; refine ⟨_, rfl, ?_⟩))
      (try simp only [Act.put, List.setIfInBounds_toArray, List.set_cons_zero, List.set_cons_succ])
      go_cut [] (fun wc => ∃ (kq : Nat) (x113000_25 : Int) (x113001_25 : Int), Aside0 (muldiv_quotient.j2 kq x11_11 x113000_25 x113001_25 = some (r1, r2)) ∧ Aside0 (kq ≤ kj11) ∧ Aside0 (wc.heap[gb103]? = some (.cells #[.int .u64 t106, .int .u64 t107] 76 (0, 0))) ∧ Aside0 (wc.heap[gb112]? = some (.cells #[.int .u64 x113000_25, .int .u64 x113001_25] 76 (0, 0))) ∧ Aside0 (Below w.heap.size w wc))
      case first =>
       have H := HC26.out
       clear HC26
       by_cases c33 : t114 = true
       ·subst c33
        have H1 : (muldiv_quotient.j2 kj11 x11_11 (IntKind.u64.wrap (t109 + (add64c t110 1 0))) (add64s t110 1 0)) = some (r1, r2) := by rw [if_pos rfl] at H; exact H
        clear H
        have H := H1
        clear H1
        have H' := Aside0.mk H
        clear H
        have hnb34 := NB112_103.out
        have hnc34 := NB103_112.out
        have hcz35_0 : w30.cell? ⟨gb112, 0, none⟩ = some (.int .u64 0) := (blk_cell BK112.out 0).trans rfl
        have hcz35_1 : w30.cell? ⟨gb112, 1, none⟩ = some (.int .u64 0) := (blk_cell BK112.out 1).trans rfl
        have hfz35_0 := blk_frozen BK112.out 0
        have hfz35_1 := blk_frozen BK112.out 1
        go_wp2
        go_meet
        case rel => exact ⟨_, (IntKind.u64.wrap (t109 + (add64c t110 1 0))), (add64s t110 1 0), H', ⟨by have := HJ4.out; have := HJ11.out; first | omega | exact Nat.le_refl _⟩, ⟨by (with_reducible repeat (first | refine blk_drewN ?_ _ | refine blk_drew ?_ | refine blk_alloc ?_ _)); refine blk_far ?_ NB103_112.out _; (with_reducible repeat (first | refine blk_drewN ?_ _ | refine blk_drew ?_ | refine blk_alloc ?_ _)); refine blk_far ?_ NB103_112.out _; (with_reducible repeat (first | refine blk_drewN ?_ _ | refine blk_drew ?_ | refine blk_alloc ?_ _)); refine blk_far ?_ NB103_112.out _; (with_reducible repeat (first | refine blk_drewN ?_ _ | refine blk_drew ?_ | refine blk_alloc ?_ _)); refine blk_far ?_ NB103_112.out _; (with_reducible repeat (first | refine blk_drewN ?_ _ | refine blk_drew ?_ | refine blk_alloc ?_ _)); exact BK103.out⟩, ⟨by (with_reducible repeat (first | refine blk_drewN ?_ _ | refine blk_drew ?_ | refine blk_alloc ?_ _)); refine blk_put (cs := #[.int .u64 (IntKind.u64.wrap (t109 + (add64c t110 1 0))), .int .u64 t110]) ?_ 1 _ rfl; (with_reducible repeat (first | refine blk_drewN ?_ _ | refine blk_drew ?_ | refine blk_alloc ?_ _)); refine blk_put (cs := #[.int .u64 t109, .int .u64 t110]) ?_ 0 _ rfl; (with_reducible repeat (first | refine blk_drewN ?_ _ | refine blk_drew ?_ | refine blk_alloc ?_ _)); refine blk_put (cs := #[.int .u64 t109, .int .u64 0]) ?_ 1 _ rfl; (with_reducible repeat (first | refine blk_drewN ?_ _ | refine blk_drew ?_ | refine blk_alloc ?_ _)); refine blk_put (cs := #[.int .u64 0, .int .u64 0]) ?_ 0 _ rfl; (with_reducible repeat (first | refine blk_drewN ?_ _ | refine blk_drew ?_ | refine blk_alloc ?_ _)); exact BK112.out⟩, ⟨by repeat (first | (with_reducible first | exact HB.out | apply below_alloc | apply pw_below_drewN | apply below_drew1 | refine below_set ?_ GE103.out | refine below_set ?_ GE112.out) | exact HB.out)⟩⟩
       ·replace c33 := Bool.eq_false_iff.mpr c33
        subst c33
        have H1 : (muldiv_quotient.j2 kj11 x11_11 t109 t110) = some (r1, r2) := by rw [if_neg (show ¬ (false = true) by decide)] at H; exact H
        clear H
        have H := H1
        clear H1
        have H' := Aside0.mk H
        clear H
        go_wp2
        go_meet
        case rel => exact ⟨_, (t109), (t110), H', ⟨by have := HJ4.out; have := HJ11.out; first | omega | exact Nat.le_refl _⟩, ⟨by (with_reducible repeat (first | refine blk_drewN ?_ _ | refine blk_drew ?_ | refine blk_alloc ?_ _)); refine blk_far ?_ NB103_112.out _; (with_reducible repeat (first | refine blk_drewN ?_ _ | refine blk_drew ?_ | refine blk_alloc ?_ _)); refine blk_far ?_ NB103_112.out _; (with_reducible repeat (first | refine blk_drewN ?_ _ | refine blk_drew ?_ | refine blk_alloc ?_ _)); exact BK103.out⟩, ⟨by (with_reducible repeat (first | refine blk_drewN ?_ _ | refine blk_drew ?_ | refine blk_alloc ?_ _)); refine blk_put (cs := #[.int .u64 t109, .int .u64 0]) ?_ 1 _ rfl; (with_reducible repeat (first | refine blk_drewN ?_ _ | refine blk_drew ?_ | refine blk_alloc ?_ _)); refine blk_put (cs := #[.int .u64 0, .int .u64 0]) ?_ 0 _ rfl; (with_reducible repeat (first | refine blk_drewN ?_ _ | refine blk_drew ?_ | refine blk_alloc ?_ _)); exact BK112.out⟩, ⟨by repeat (first | (with_reducible first | exact HB.out | apply below_alloc | apply pw_below_drewN | apply below_drew1 | refine below_set ?_ GE103.out | refine below_set ?_ GE112.out) | exact HB.out)⟩⟩
      case rest =>
       clear HC26
       try clear c1
       try clear c2
       try clear p2
       try clear c3
       try clear c6
       try clear c6b0
       try clear c6b1
       try clear c7
       try clear c7b0
       try clear c8
       try clear c15
       try clear c15b0
       try clear c16
       try clear c16b0
       try clear c17
       try clear c17b0
       try clear c18
       try clear c18b0
       try clear c19
       try clear c19b0
       try clear c20
       try clear c20b0
       try clear c21
       try clear c21b0
       try clear c33
       try clear c34
       try clear hcz14_0
       try clear hcz14_1
       try clear hcz35_0
       try clear hcz35_1
       try clear hfz14_0
       try clear hfz14_1
       try clear hfz35_0
       try clear hfz35_1
       try clear p2
       obtain ⟨kq, x113000_25, x113001_25, HA, HJ25, BK103, BK112, HB⟩ := hcut
       cases kq with
       | zero => exact absurd HA.out (by simp [muldiv_quotient.j2])
       | succ kj25 =>
        have H := HA.out
        clear HA
        simp only [muldiv_quotient.j2] at H
        have HC36 := Aside0.mk H
        clear H
        go_upto_if 70 with (fail)
        go_cut [16] (fun v16 wc => ∃ (kq : Nat) (x16_35 : Int), v16 = .int .u64 x16_35 ∧ Aside0 (muldiv_quotient.j3 kq x11_11 x16_35 x113000_25 x113001_25 = some (r1, r2)) ∧ Aside0 (kq ≤ kj25) ∧ Aside0 (wc.heap[gb103]? = some (.cells #[.int .u64 t106, .int .u64 t107] 76 (0, 0))) ∧ Aside0 (wc.heap[gb112]? = some (.cells #[.int .u64 x113000_25, .int .u64 x113001_25] 76 (0, 0))) ∧ Aside0 (Below w.heap.size w wc))
        case first =>
         have H := HC36.out
         clear HC36
         by_cases c37 : x11_11 = true
         ·subst c37
          have H1 : (muldiv_quotient.j3 kj25 true (9223372036854775807 + 1) x113000_25 x113001_25) = some (r1, r2) := by rw [if_pos rfl] at H; exact H
          clear H
          have H := H1
          clear H1
          have H' := Aside0.mk H
          clear H
          go_wp2
          go_meet
          case rel => exact ⟨_, (9223372036854775807 + 1), (by first | rfl | (simp; done) | (simp [*]; done)), H', ⟨by have := HJ4.out; have := HJ11.out; have := HJ25.out; first | omega | exact Nat.le_refl _⟩, ⟨by (with_reducible repeat (first | refine blk_drewN ?_ _ | refine blk_drew ?_ | refine blk_alloc ?_ _)); exact BK103.out⟩, ⟨by (with_reducible repeat (first | refine blk_drewN ?_ _ | refine blk_drew ?_ | refine blk_alloc ?_ _)); exact BK112.out⟩, ⟨by repeat (first | (with_reducible first | exact HB.out | apply below_alloc | apply pw_below_drewN | apply below_drew1 | refine below_set ?_ GE103.out | refine below_set ?_ GE112.out) | exact HB.out)⟩⟩
         ·replace c37 := Bool.eq_false_iff.mpr c37
          subst c37
          have H1 : (muldiv_quotient.j3 kj25 false 9223372036854775807 x113000_25 x113001_25) = some (r1, r2) := by rw [if_neg (show ¬ (false = true) by decide)] at H; exact H
          clear H
          have H := H1
          clear H1
          have H' := Aside0.mk H
          clear H
          go_wp2
          go_meet
          case rel => exact ⟨_, (9223372036854775807), (by first | rfl | (simp; done) | (simp [*]; done)), H', ⟨by have := HJ4.out; have := HJ11.out; have := HJ25.out; first | omega | exact Nat.le_refl _⟩, ⟨by (with_reducible repeat (first | refine blk_drewN ?_ _ | refine blk_drew ?_ | refine blk_alloc ?_ _)); exact BK103.out⟩, ⟨by (with_reducible repeat (first | refine blk_drewN ?_ _ | refine blk_drew ?_ | refine blk_alloc ?_ _)); exact BK112.out⟩, ⟨by repeat (first | (with_reducible first | exact HB.out | apply below_alloc | apply pw_below_drewN | apply below_drew1 | refine below_set ?_ GE103.out | refine below_set ?_ GE112.out) | exact HB.out)⟩⟩
        case rest =>
         clear HC36
         try clear c1
         try clear c2
         try clear p2
         try clear c3
         try clear c6
         try clear c6b0
         try clear c6b1
         try clear c7
         try clear c7b0
         try clear c8
         try clear c15
         try clear c15b0
         try clear c16
         try clear c16b0
         try clear c17
         try clear c17b0
         try clear c18
         try clear c18b0
         try clear c19
         try clear c19b0
         try clear c20
         try clear c20b0
         try clear c21
         try clear c21b0
         try clear c33
         try clear c34
         try clear c37
         try clear hcz14_0
         try clear hcz14_1
         try clear hcz35_0
         try clear hcz35_1
         try clear hfz14_0
         try clear hfz14_1
         try clear hfz35_0
         try clear hfz35_1
         try clear p2
         obtain ⟨kq, x16_35, rfl, HA, HJ35, BK103, BK112, HB⟩ := hcut
         cases kq with
         | zero => exact absurd HA.out (by simp [muldiv_quotient.j3])
         | succ kj35 =>
          have H := HA.out
          clear HA
          simp only [muldiv_quotient.j3] at H
          have HC38 := Aside0.mk H
          clear H
          go_upto_region 13 with (fail)
          go_cut [73] (fun v73 wc => ∃ (kq : Nat) (x73_37 : Bool), v73 = .bool x73_37 ∧ Aside0 (muldiv_quotient.j4 kq x11_11 x73_37 x113000_25 x113001_25 = some (r1, r2)) ∧ Aside0 (kq ≤ kj35) ∧ Aside0 (wc.heap[gb103]? = some (.cells #[.int .u64 t106, .int .u64 t107] 76 (0, 0))) ∧ Aside0 (wc.heap[gb112]? = some (.cells #[.int .u64 x113000_25, .int .u64 x113001_25] 76 (0, 0))) ∧ Aside0 (Below w.heap.size w wc))
          case first =>
           have H := HC38.out
           clear HC38
           by_cases c39 : x113000_25 > 0
           ·rw [if_pos c39] at H
            have c39b0 : decide (0 < x113000_25) = true := decide_eq_true c39
            clear c39
            (first | rw [c39b0] | (simp only [i64_w, i32_w]; rw [c39b0]) | skip)
            have H' := Aside0.mk H
            clear H
            have hnb40 := NB112_103.out
            have hnc40 := NB103_112.out
            have hcz41_0 : wc.cell? ⟨gb112, 0, none⟩ = some (.int .u64 x113000_25) := (blk_cell BK112.out 0).trans rfl
            have hcz41_1 : wc.cell? ⟨gb112, 1, none⟩ = some (.int .u64 x113001_25) := (blk_cell BK112.out 1).trans rfl
            have hfz41_0 := blk_frozen BK112.out 0
            have hfz41_1 := blk_frozen BK112.out 1
            go_wp2
            go_meet
            case rel => exact ⟨_, (true), (by first | rfl | (simp; done) | (simp [*]; done)), H', ⟨by have := HJ4.out; have := HJ11.out; have := HJ25.out; have := HJ35.out; first | omega | exact Nat.le_refl _⟩, ⟨by (with_reducible repeat (first | refine blk_drewN ?_ _ | refine blk_drew ?_ | refine blk_alloc ?_ _)); exact BK103.out⟩, ⟨by (with_reducible repeat (first | refine blk_drewN ?_ _ | refine blk_drew ?_ | refine blk_alloc ?_ _)); exact BK112.out⟩, ⟨by repeat (first | (with_reducible first | exact HB.out | apply below_alloc | apply pw_below_drewN | apply below_drew1 | refine below_set ?_ GE103.out | refine below_set ?_ GE112.out) | exact HB.out)⟩⟩
           ·rw [if_neg c39] at H
            have c39b0 : decide (0 < x113000_25) = false := decide_eq_false c39
            clear c39
            (first | rw [c39b0] | (simp only [i64_w, i32_w]; rw [c39b0]) | skip)
            have H' := Aside0.mk H
            clear H
            have hnb42 := NB112_103.out
            have hnc42 := NB103_112.out
            have hcz43_0 : wc.cell? ⟨gb112, 0, none⟩ = some (.int .u64 x113000_25) := (blk_cell BK112.out 0).trans rfl
            have hcz43_1 : wc.cell? ⟨gb112, 1, none⟩ = some (.int .u64 x113001_25) := (blk_cell BK112.out 1).trans rfl
            have hfz43_0 := blk_frozen BK112.out 0
            have hfz43_1 := blk_frozen BK112.out 1
            go_wp2
            go_meet
            case rel => exact ⟨_, (decide (x113001_25 > x16_35)), (by first | rfl | (simp; done) | (simp [*]; done)), H', ⟨by have := HJ4.out; have := HJ11.out; have := HJ25.out; have := HJ35.out; first | omega | exact Nat.le_refl _⟩, ⟨by (with_reducible repeat (first | refine blk_drewN ?_ _ | refine blk_drew ?_ | refine blk_alloc ?_ _)); exact BK103.out⟩, ⟨by (with_reducible repeat (first | refine blk_drewN ?_ _ | refine blk_drew ?_ | refine blk_alloc ?_ _)); exact BK112.out⟩, ⟨by repeat (first | (with_reducible first | exact HB.out | apply below_alloc | apply pw_below_drewN | apply below_drew1 | refine below_set ?_ GE103.out | refine below_set ?_ GE112.out) | exact HB.out)⟩⟩
          case rest =>
           clear HC38
           try clear c1
           try clear c2
           try clear p2
           try clear c3
           try clear c4
           try clear c6
           try clear c6b0
           try clear c6b1
           try clear c7
           try clear c7b0
           try clear c8
           try clear c15
           try clear c15b0
           try clear c16
           try clear c16b0
           try clear c17
           try clear c17b0
           try clear c18
           try clear c18b0
           try clear c19
           try clear c19b0
           try clear c20
           try clear c20b0
           try clear c21
           try clear c21b0
           try clear c33
           try clear c34
           try clear c37
           try clear c38
           try clear c39
           try clear c39b0
           try clear c40
           try clear c42
           try clear hcz14_0
           try clear hcz14_1
           try clear hcz35_0
           try clear hcz35_1
           try clear hcz41_0
           try clear hcz41_1
           try clear hcz43_0
           try clear hcz43_1
           try clear hfz14_0
           try clear hfz14_1
           try clear hfz35_0
           try clear hfz35_1
           try clear hfz41_0
           try clear hfz41_1
           try clear hfz43_0
           try clear hfz43_1
           try clear p2
           obtain ⟨kq, x73_37, rfl, HA, HJ37, BK103, BK112, HB⟩ := hcut
           cases kq with
           | zero => exact absurd HA.out (by simp [muldiv_quotient.j4])
           | succ kj37 =>
            have H := HA.out
            clear HA
            simp only [muldiv_quotient.j4] at H
            by_cases c44 : x73_37 = true
            ·subst c44
             have H1 : (if x11_11 = true then (some ((-9223372036854775808), false)) else (some (9223372036854775807, false))) = some (r1, r2) := by rw [if_pos rfl] at H; exact H
             clear H
             have H := H1
             clear H1
             by_cases c45 : x11_11 = true
             ·subst c45
              have H1 : (some ((-9223372036854775808), false)) = some (r1, r2) := by rw [if_pos rfl] at H; exact H
              clear H
              have H := H1
              clear H1
              simp only [Option.some.injEq, Prod.mk.injEq] at H
              obtain ⟨rfl, rfl⟩ := H
              go_wp2
              go_ret2
              exact ⟨by first | rfl | (simp [errW_none, errW_some] <;> rfl) | (simp [*, errW_none, errW_some] <;> rfl), by repeat (first | (with_reducible first | exact HB.out | apply below_alloc | apply pw_below_drewN | apply below_drew1 | refine below_set ?_ GE103.out | refine below_set ?_ GE112.out) | exact HB.out)⟩
             ·replace c45 := Bool.eq_false_iff.mpr c45
              subst c45
              have H1 : (some (9223372036854775807, false)) = some (r1, r2) := by rw [if_neg (show ¬ (false = true) by decide)] at H; exact H
              clear H
              have H := H1
              clear H1
              simp only [Option.some.injEq, Prod.mk.injEq] at H
              obtain ⟨rfl, rfl⟩ := H
              go_wp2
              go_ret2
              exact ⟨by first | rfl | (simp [errW_none, errW_some] <;> rfl) | (simp [*, errW_none, errW_some] <;> rfl), by repeat (first | (with_reducible first | exact HB.out | apply below_alloc | apply pw_below_drewN | apply below_drew1 | refine below_set ?_ GE103.out | refine below_set ?_ GE112.out) | exact HB.out)⟩
            ·replace c44 := Bool.eq_false_iff.mpr c44
             subst c44
             have H1 : (if x11_11 = true then (some (wrap64 (IntKind.u64.wrap (-x113001_25)), true)) else (some (wrap64 (x113001_25), true))) = some (r1, r2) := by rw [if_neg (show ¬ (false = true) by decide)] at H; exact H
             clear H
             have H := H1
             clear H1
             by_cases c46 : x11_11 = true
             ·subst c46
              have H1 : (some (wrap64 (IntKind.u64.wrap (-x113001_25)), true)) = some (r1, r2) := by rw [if_pos rfl] at H; exact H
              clear H
              have H := H1
              clear H1
              simp only [Option.some.injEq, Prod.mk.injEq] at H
              obtain ⟨rfl, rfl⟩ := H
              have hnb47 := NB112_103.out
              have hnc47 := NB103_112.out
              have hcz48_0 : wc.cell? ⟨gb112, 0, none⟩ = some (.int .u64 x113000_25) := (blk_cell BK112.out 0).trans rfl
              have hcz48_1 : wc.cell? ⟨gb112, 1, none⟩ = some (.int .u64 x113001_25) := (blk_cell BK112.out 1).trans rfl
              have hfz48_0 := blk_frozen BK112.out 0
              have hfz48_1 := blk_frozen BK112.out 1
              go_wp2
              go_ret2
              exact ⟨by first | rfl | (simp [errW_none, errW_some] <;> rfl) | (simp [*, errW_none, errW_some] <;> rfl), by repeat (first | (with_reducible first | exact HB.out | apply below_alloc | apply pw_below_drewN | apply below_drew1 | refine below_set ?_ GE103.out | refine below_set ?_ GE112.out) | exact HB.out)⟩
             ·replace c46 := Bool.eq_false_iff.mpr c46
              subst c46
              have H1 : (some (wrap64 (x113001_25), true)) = some (r1, r2) := by rw [if_neg (show ¬ (false = true) by decide)] at H; exact H
              clear H
              have H := H1
              clear H1
              simp only [Option.some.injEq, Prod.mk.injEq] at H
              obtain ⟨rfl, rfl⟩ := H
              have hnb49 := NB112_103.out
              have hnc49 := NB103_112.out
              have hcz50_0 : wc.cell? ⟨gb112, 0, none⟩ = some (.int .u64 x113000_25) := (blk_cell BK112.out 0).trans rfl
              have hcz50_1 : wc.cell? ⟨gb112, 1, none⟩ = some (.int .u64 x113001_25) := (blk_cell BK112.out 1).trans rfl
              have hfz50_0 := blk_frozen BK112.out 0
              have hfz50_1 := blk_frozen BK112.out 1
              go_wp2
              go_ret2
              exact ⟨by first | rfl | (simp [errW_none, errW_some] <;> rfl) | (simp [*, errW_none, errW_some] <;> rfl), by repeat (first | (with_reducible first | exact HB.out | apply below_alloc | apply pw_below_drewN | apply below_drew1 | refine below_set ?_ GE103.out | refine below_set ?_ GE112.out) | exact HB.out)⟩
end Go.Proofs.Ytdddpmmpfemibaa.P
end

section
namespace Go.Proofs.Ytdddpmmpfemibaa.P
open Go.RowKit Go.Proofs.YtdddpmmpfemibaaW.PrintWords Go.Proofs.YtdddpmmpfemibaaW.PrintLast Go.Proofs.YtdddpmmpfemibaaW.PrintMore
attribute [local go_sem] max2_int min2_int max_two min_two max_three min_three max_four min_four   -- for this text's walks alone
set_option linter.unusedVariables false
set_option linter.unusedSimpArgs false
theorem mul64_ok (a b : Int) (ha : 0 ≤ a) (ha1 : a < 18446744073709551616) (hb : 0 ≤ b) (hb1 : b < 18446744073709551616) :
  bits_Mul64.f a b = some (a * b / 18446744073709551616, a * b % 18446744073709551616) := by
 obtain ⟨x, rfl⟩ := Int.eq_ofNat_of_zero_le ha
 obtain ⟨y, rfl⟩ := Int.eq_ofNat_of_zero_le hb
 have hx : x < 18446744073709551616 := by omega
 have hy : y < 18446744073709551616 := by omega
 obtain ⟨bd, bt, bw, hhi⟩ := Lib.mul64_hi x y hx hy
 have e1 : Go.bits .and .u64 (x : Int) 4294967295 = ((x % 4294967296 : Nat) : Int) := by rw [and_low32 _ ha (by omega)]; omega
 have e2 : Go.bits .and .u64 (y : Int) 4294967295 = ((y % 4294967296 : Nat) : Int) := by rw [and_low32 _ hb (by omega)]; omega
 have d1 : (x : Int) / 4294967296 = ((x / 4294967296 : Nat) : Int) := by omega
 have d2 : (y : Int) / 4294967296 = ((y / 4294967296 : Nat) : Int) := by omega
 unfold bits_Mul64.f
 rw [e1, e2, d1, d2]
 simp only [← Int.natCast_mul]
 have b3 := Lib.half_mul_le (a := x / 4294967296) (b := y % 4294967296) (by omega) (by omega)
 have b4 := Lib.half_mul_le (a := x % 4294967296) (b := y / 4294967296) (by omega) (by omega)
 have b5 := Lib.half_mul_le (a := x / 4294967296) (b := y / 4294967296) (by omega) (by omega)
 generalize (x % 4294967296) * (y % 4294967296) = w0 at *
 generalize (x / 4294967296) * (y % 4294967296) = p1 at *
 generalize (x % 4294967296) * (y / 4294967296) = p2 at *
 generalize (x / 4294967296) * (y / 4294967296) = p3 at *
 generalize x * y = N at *
 have w1 : IntKind.u64.wrap ((w0 : Nat) : Int) = (w0 : Int) := u64_id _ (by omega) (by omega)
 have w2 : IntKind.u64.wrap ((p1 : Nat) : Int) = (p1 : Int) := u64_id _ (by omega) (by omega)
 have w3 : IntKind.u64.wrap ((p2 : Nat) : Int) = (p2 : Int) := u64_id _ (by omega) (by omega)
 have w4 : IntKind.u64.wrap ((p3 : Nat) : Int) = (p3 : Int) := u64_id _ (by omega) (by omega)
 rw [w1, w2, w3, w4]
 have t : (p1 : Int) + (w0 : Int) / 4294967296 = ((p1 + w0 / 4294967296 : Nat) : Int) := by omega
 rw [t]
 generalize hT : p1 + w0 / 4294967296 = T at *
 have w5 : IntKind.u64.wrap ((T : Nat) : Int) = (T : Int) := u64_id _ (by omega) (by omega)
 have e3 : Go.bits .and .u64 (T : Int) 4294967295 = ((T % 4294967296 : Nat) : Int) := by rw [and_low32 _ (by omega) (by omega)]; omega
 rw [w5, e3]
 rw [u64_id (((T % 4294967296 : Nat) : Int) + (p2 : Int)) (by omega) (by omega), u64_id ((p3 : Int) + (T : Int) / 4294967296) (by omega) (by omega), u64_id _ (by omega) (by omega), u64_mod]
 congr 2
 ·omega
theorem msize (a : Int) (h : isI64 a) : muldiv_size.f a = some (if a < 0 then -a else a) := by
 unfold isI64 at h
 unfold muldiv_size.f
 simp only [u64_mod]
 split
 ·congr 1; omega
 ·congr 1; omega
theorem quotient_tail (below : Bool) (hi lo : Int) (h0 : 0 ≤ hi) (l0 : 0 ≤ lo) (l1 : lo < 18446744073709551616) :
  muldiv_quotient.j2 3 below hi lo = some (hold64 (if below = true then -(hi * 18446744073709551616 + lo) else hi * 18446744073709551616 + lo)) := by
 cases below with
 | true =>
  simp only [muldiv_quotient.j2, muldiv_quotient.j3, muldiv_quotient.j4, if_true]
  unfold hold64
  by_cases hz : hi > 0
  ·rw [if_pos hz, if_pos (by omega)]
  ·rw [if_neg hz]
   by_cases hl : lo > 9223372036854775808
   ·rw [decide_eq_true (by omega), if_pos rfl, if_pos (by omega)]
   ·rw [decide_eq_false (by omega), if_neg (by simp), if_neg (by omega), if_neg (by omega)]
    congr 2
    rw [u64_mod]; unfold wrap64; omega
 | false =>
  simp only [muldiv_quotient.j2, muldiv_quotient.j3, muldiv_quotient.j4, Bool.false_eq_true, if_false]
  unfold hold64
  by_cases hz : hi > 0
  ·rw [if_pos hz, if_pos trivial, if_neg (by omega), if_pos (by omega)]
  ·rw [if_neg hz]
   by_cases hl : lo > 9223372036854775807
   ·rw [decide_eq_true (by omega), if_pos rfl, if_neg (by omega), if_pos (by omega)]
   ·rw [decide_eq_false (by omega), if_neg (by simp), if_neg (by omega), if_neg (by omega)]
    congr 2
    unfold wrap64; omega
theorem up_ok (left C : Int) (below : Bool) (how : Int) (h0 : 0 ≤ left) (h1 : left < C) (hC : C < 18446744073709551616) (hh : how = 1 ∨ how = 2 ∨ how = 3) :
  muldiv_up.f left C below how = some (decide (1 = (if below = true then (if how = 1 then (if 0 < left then 1 else 0) else if how = 3 then 0 else (if C < 2 * left then 1 else 0)) else (if how = 1 then 0 else if how = 3 then (if 0 < left then 1 else 0) else (if C ≤ 2 * left then 1 else 0)) : Int))) := by
 unfold muldiv_up.f
 have w : IntKind.u64.wrap (C - left) = C - left := u64_id _ (by omega) (by omega)
 rw [w]
 rcases hh with rfl | rfl | rfl <;> cases below <;> simp
 all_goals (try (split <;> simp_all <;> omega))
 all_goals (try omega)
theorem quotient_j1 (x2 how N C : Int) (below : Bool) (hx : isI64 x2) (hC : C = if x2 < 0 then -x2 else x2) (hC0 : 0 < C) (hN : 0 ≤ N) (hN1 : N ≤ 85070591730234615865843651857942052864) (hh : how = 1 ∨ how = 2 ∨ how = 3) :
  muldiv_quotient.j1 4 x2 how below (N / 18446744073709551616) (N % 18446744073709551616) = some (hold64 (rnd (if below = true then -N else N) C how)) := by
 have ms := msize x2 hx
 rw [← hC] at ms
 have hCu : C ≤ 9223372036854775808 := by unfold isI64 at hx; rw [hC]; split <;> omega
 obtain ⟨t1, t2, t3, t4⟩ := two_halves N C hN hC0
 simp only [muldiv_quotient.j1, ms, Option.bind_some]
 unfold muldiv_divided.f
 rw [if_pos ⟨⟨by omega, by omega⟩, ⟨by omega, by omega⟩, ⟨hC0, by omega⟩⟩]
 simp only [Option.bind_some]
 rw [← t2]
 have r0 := Int.emod_nonneg N (show C ≠ 0 by omega)
 have r1 := Int.emod_lt_of_pos N hC0
 rw [up_ok _ _ _ _ r0 r1 (by omega) hh, Option.bind_some]
 have q0 : 0 ≤ N / 18446744073709551616 / C := Int.ediv_nonneg (by omega) (by omega)
 have q1 : N / 18446744073709551616 / C ≤ N / 18446744073709551616 := Int.ediv_le_self _ (by omega)
 have val : ∀ u : Int, u = 0 ∨ u = 1 → (if decide (1 = u) = true then
    muldiv_quotient.j2 3 below (IntKind.u64.wrap (N / 18446744073709551616 / C + add64c ((N / 18446744073709551616 % C * 18446744073709551616 + N % 18446744073709551616) / C) 1 0)) (add64s ((N / 18446744073709551616 % C * 18446744073709551616 + N % 18446744073709551616) / C) 1 0)
   else muldiv_quotient.j2 3 below (N / 18446744073709551616 / C) ((N / 18446744073709551616 % C * 18446744073709551616 + N % 18446744073709551616) / C)) = some (hold64 (if below = true then -(N / C + u) else N / C + u)) := by
  intro u hu
  generalize (N / 18446744073709551616 % C * 18446744073709551616 + N % 18446744073709551616) / C = lo at *
  generalize N / 18446744073709551616 / C = hi at *
  rcases hu with rfl | rfl
  ·rw [if_neg (by simp), quotient_tail below hi lo q0 t3 t4, Int.add_zero, t1]
  ·rw [if_pos (by simp)]
   have s1 : add64s lo 1 0 = (lo + 1) % 18446744073709551616 := by unfold add64s; simp only [show (1 : Int).toNat = 1 from rfl, show (0 : Int).toNat = 0 from rfl]; omega
   have s2 : add64c lo 1 0 = (lo + 1) / 18446744073709551616 := by unfold add64c; simp only [show (1 : Int).toNat = 1 from rfl, show (0 : Int).toNat = 0 from rfl]; omega
   rw [s1, s2, u64_id _ (by omega) (by omega), quotient_tail below _ _ (by omega) (by omega) (by omega)]
   congr 3
   all_goals omega
 cases below with
 | true =>
  simp only [if_true] at val ⊢
  rw [rnd_neg N C how hC0]
  apply val
  split
  ·split <;> simp
  ·split
   ·simp
   ·split <;> simp
 | false =>
  simp only [Bool.false_eq_true, if_false] at val ⊢
  rw [rnd_pos N C how hC0]
  apply val
  split
  ·simp
  ·split
   ·split <;> simp
   ·split <;> simp
theorem quotient_ok (a b c how : Int) (ha : isI64 a) (hb : isI64 b) (hc : isI64 c) : muldiv_quotient.f 5 a b c how = some (mdq a b c how) := by
 unfold muldiv_quotient.f mdq
 by_cases hz : c = 0
 ·rw [if_pos hz, if_pos (Or.inl hz)]; rfl
 rw [if_neg hz]
 by_cases hl : how < 1
 ·rw [if_pos hl, if_pos (Or.inr (Or.inl hl))]; rfl
 rw [if_neg hl]
 by_cases hg : how > 3
 ·rw [decide_eq_true hg, if_pos (Or.inr (Or.inr hg))]; rfl
 rw [decide_eq_false hg, if_neg (by omega)]
 simp only [muldiv_quotient.j0, Bool.false_eq_true, if_false]
 rw [msize a ha, msize b hb]
 simp only [Option.bind_some]
 have ha' := ha; have hb' := hb; have hc' := hc
 unfold isI64 at ha' hb' hc'
 rw [mul64_ok _ _ (by split <;> omega) (by split <;> omega) (by split <;> omega) (by split <;> omega)]
 simp only [Option.bind_some]
 have hN := abs_mul_le (a := if a < 0 then -a else a) (b := if b < 0 then -b else b) (by split <;> omega) (by split <;> omega) (by split <;> omega) (by split <;> omega)
 have hN0 := Int.mul_nonneg (a := if a < 0 then -a else a) (b := if b < 0 then -b else b) (by split <;> omega) (by split <;> omega)
 have J := fun bl => quotient_j1 c how ((if a < 0 then -a else a) * (if b < 0 then -b else b)) (if c < 0 then -c else c) bl hc rfl (by split <;> omega) hN0 hN (by omega)
 simp only [J]
 by_cases h1 : a < 0 <;> by_cases h2 : b < 0 <;> by_cases h3 : c < 0 <;> simp [h1, h2, h3, Int.neg_mul, Int.mul_neg]
def muldiv_quotient_s.f (a0 : Int) (a1 : Int) (a2 : Int) (a3 : Int) : Option (Int × Bool) := if isI64 a0 ∧ isI64 a1 ∧ isI64 a2 then some (mdq a0 a1 a2 a3) else none
theorem muldiv_quotient_s.calls (a0 : Int) (a1 : Int) (a2 : Int) (a3 : Int) (r1 : Int) (r2 : Bool) (w : World) (h : muldiv_quotient_s.f a0 a1 a2 a3 = some (r1, r2)) :
  Calls Try.prog 32 #[.int .i64 a0, .int .i64 a1, .int .i64 a2, .int .i64 a3] w fun e w' => e = .returned (.tuple #[.int .i64 r1, .bool r2]) ∧ Below w.heap.size w w' := by
 unfold muldiv_quotient_s.f at h
 split at h
 ·rename_i hb
  exact muldiv_quotient.calls 5 a0 a1 a2 a3 r1 r2 w ((quotient_ok a0 a1 a2 a3 hb.1 hb.2.1 hb.2.2).trans h)
 ·cases h
def muldiv_Do.f (a0 : Int) (a1 : Int) (a2 : Int) (a3 : Int) : Option (Int) := (muldiv_quotient_s.f a0 a1 a2 a3).bind fun bt115 => (some bt115.1)
set_option maxHeartbeats 8000000 in
set_option maxRecDepth 100000 in
theorem muldiv_Do.calls (a0 : Int) (a1 : Int) (a2 : Int) (a3 : Int) (r : Int) (w : World) (h : muldiv_Do.f a0 a1 a2 a3 = some r) :
  Calls Try.prog 29 #[.int .i64 a0, .int .i64 a1, .int .i64 a2, .int .i64 a3] w fun e w' => e = .returned (.int .i64 r) ∧ Below w.heap.size w w' := by
 have HB := Aside0.mk (Below.refl w.heap.size w)
 have H : ((muldiv_quotient_s.f a0 a1 a2 a3).bind fun bt115 => (some bt115.1)) = some r := h
 clear h
 replace H := Option.bind_eq_some_iff.mp H
 obtain ⟨⟨t115, t116⟩, A50, H⟩ := H
 replace H : (some t115) = some r := H
 have A5 := Aside0.mk A50
 clear A50
 obtain rfl := Option.some.inj H
 go_enter Try.func29, Try.ntmps29
 go_wp2_with (first | ((with_reducible refine gate_callee (f := 32) rfl ?_); refine goesL_ (some 16) rfl rfl Try.func32 (by kernel_rfl) rfl #[.int .i64 a0, .int .i64 a1, .int .i64 a2, .int .i64 a3] rfl (by (try simp only [List.map_toArray, List.map_cons, List.map_nil]); first | done | rfl | (simp only [List.length_drop, List.length_take]; rfl)) ?_; (with_reducible refine (muldiv_quotient_s.calls a0 a1 a2 a3 t115 t116 _ A5.out).mono ?_); rintro e w6 ⟨rfl, hb⟩; refine ⟨_, rfl, ?_⟩; have n0_ := Aside0.mk (below_step (by repeat (first | (with_reducible first | exact HB.out | apply below_alloc | apply pw_below_drewN | apply below_drew1) | exact HB.out)) hb); clear HB; have HB := n0_; clear n0_; (try clear hb); (try clear hb2); (try clear hk); (try clear hi)))
 go_ret
 exact ⟨by first | rfl | (simp [errW_none, errW_some] <;> rfl) | (simp [*, errW_none, errW_some] <;> rfl), by repeat (first | (with_reducible first | exact HB.out | apply below_alloc | apply pw_below_drewN | apply below_drew1) | exact HB.out)⟩
def units_rate_bytes.f (a0 : Int) (a1 : Int) : Option (Int) := (muldiv_Do.f a0 a1 8000000 1).bind fun t117 => (some t117)
set_option maxHeartbeats 8000000 in
set_option maxRecDepth 100000 in
theorem units_rate_bytes.calls (a0 : Int) (a1 : Int) (r : Int) (w : World) (h : units_rate_bytes.f a0 a1 = some r) :
  Calls Try.prog 25 #[.int .i64 a0, .int .i64 a1] w fun e w' => e = .returned (.int .i64 r) ∧ Below w.heap.size w w' := by
 have HB := Aside0.mk (Below.refl w.heap.size w)
 have H : ((muldiv_Do.f a0 a1 8000000 1).bind fun t117 => (some t117)) = some r := h
 clear h
 replace H := Option.bind_eq_some_iff.mp H
 obtain ⟨t117, A30, H⟩ := H
 replace H : (some t117) = some r := H
 have A3 := Aside0.mk A30
 clear A30
 obtain rfl := Option.some.inj H
 go_enter Try.func25, Try.ntmps25
 go_wp2_with (first | ((with_reducible refine gate_callee (f := 29) rfl ?_); refine goesL_ (some 7) rfl rfl Try.func29 (by kernel_rfl) rfl #[.int .i64 a0, .int .i64 a1, .int .i64 8000000, .int .i64 1] rfl (by (try simp only [List.map_toArray, List.map_cons, List.map_nil]); first | done | rfl | (simp only [List.length_drop, List.length_take]; rfl)) ?_; (with_reducible refine (muldiv_Do.calls a0 a1 8000000 1 t117 _ A3.out).mono ?_); rintro e w4 ⟨rfl, hb⟩; refine ⟨_, rfl, ?_⟩; have n0_ := Aside0.mk (below_step (by repeat (first | (with_reducible first | exact HB.out | apply below_alloc | apply pw_below_drewN | apply below_drew1) | exact HB.out)) hb); clear HB; have HB := n0_; clear n0_; (try clear hb); (try clear hb2); (try clear hk); (try clear hi)))
 go_ret
 exact ⟨by first | rfl | (simp [errW_none, errW_some] <;> rfl) | (simp [*, errW_none, errW_some] <;> rfl), by repeat (first | (with_reducible first | exact HB.out | apply below_alloc | apply pw_below_drewN | apply below_drew1) | exact HB.out)⟩
def units_Bytes.f (a0 : Int) (a1 : Int) : Option (Int) := units_rate_bytes.f a0 a1
set_option maxHeartbeats 4000000 in
set_option maxRecDepth 100000 in
theorem units_Bytes.calls (a0 : Int) (a1 : Int) (r : Int) (w : World) (h : units_Bytes.f a0 a1 = some r) :
  Calls Try.prog 17 #[.int .i64 a0, .int .i64 a1] w fun e w' => e = .returned (.int .i64 r) ∧ Below w.heap.size w w' := by
 have H := Aside0.mk (show units_rate_bytes.f a0 a1 = some r from h)
 clear h
 go_enter Try.func17, Try.ntmps17
 go_wp2_with (first | (go_at_call 25; (with_reducible refine (units_rate_bytes.calls a0 a1 r _ H.out).mono ?_); rintro e w' ⟨rfl, hb⟩) | go_in)
 go_ret
 exact ⟨rfl, hb⟩
def probe_Probe_Start.f (s0_0 : PbS) (a1 : Int) : Option (Int × PbS) := if a1 < 1 then some (0, s0_0) else (if 17179869184 < a1 then some (0, s0_0) else (if 0 < s0_0.o then some (0, s0_0) else ((units_Bytes.f a1 15000).bind fun b => (some (mx b 6000)).bind fun n => (some (wrap64 (s0_0.n + 1))).bind fun k => (if lk s0_0.l k = none then some (k, ⟨k, k, s0_0.b, rm (s0_0.l ++ [(k, ⟨a1, n, n, 0, 0, 0, 0, 0, 0, 0, 0⟩)]) (wrap64 (k - 4))⟩) else none))))
def probe_Probe_Start.T5 : Bool × List (List Nat × List Nat) := (true, [([], []), ([0], [0]), ([1], [1]), ([2], [2]), ([], []), ([4], [4]), ([5], [5]), ([6], [6]), ([], []), ([], []), ([], []), ([8, 9, 10], [8, 9, 10]), ([11], [11]), ([3, 7, 12, 0, 1, 2, 3, 4, 5, 6, 7, 8, 9, 10, 11, 12], [3, 7, 12])])
def probe_Probe_Start.B5 : List Nat := [0, 1, 3, 7, 0, 16, 48, 112, 0, 0, 0, 1792, 3840, 8191]
theorem probe_Probe_Start.tab5 : rtab .any (opsOf Try.f6 5) = probe_Probe_Start.T5 := by kernel_rfl
theorem probe_Probe_Start.bits5 : waitsOk probe_Probe_Start.T5.2 probe_Probe_Start.B5 = true := by kernel_rfl
def probe_Probe_Start.T6 : Bool × List (List Nat × List Nat) := (true, [([], []), ([0], [0]), ([1], [1]), ([2], [2]), ([], []), ([4], [4]), ([5], [5]), ([6], [6]), ([7], [7]), ([3, 8], [3, 8])])
def probe_Probe_Start.B6 : List Nat := [0, 1, 3, 7, 0, 16, 48, 112, 240, 511]
theorem probe_Probe_Start.tab6 : rtab .any (opsOf Try.f6 6) = probe_Probe_Start.T6 := by kernel_rfl
theorem probe_Probe_Start.bits6 : waitsOk probe_Probe_Start.T6.2 probe_Probe_Start.B6 = true := by kernel_rfl
set_option maxHeartbeats 16000000 in
set_option maxRecDepth 100000 in
theorem probe_Probe_Start.calls (g : Nat) (s0_0 : PbS) (a1 : Int) (r1 : Int) (r2 : PbS) (w0 w : World) (hI : IsS42 w0 w g s0_0) (hB : Below w0.heap.size w0 w) (h : probe_Probe_Start.f s0_0 a1 = some (r1, r2)) :
  Calls Try.prog 6 #[.pointer (some ⟨g, 0, none⟩), .int .i64 a1] w fun e w' => e = .returned (.int .i64 r1) ∧ IsS42 w0 w' g r2 ∧ Below w0.heap.size w0 w' ∧ KeepT w w' := by
 have hpn23_eql : ∀ (a_ : Addr) (W_ : World), (Go.binOp .eql 23 (.pointer (some a_)) (.pointer none)).run Try.prog W_ = .ok (.bool false) W_ := fun _ _ => by kernel_rfl
 have hpn47_eql : ∀ (a_ : Addr) (W_ : World), (Go.binOp .eql 47 (.pointer (some a_)) (.pointer none)).run Try.prog W_ = .ok (.bool false) W_ := fun _ _ => by kernel_rfl
 have hu49 := Try.underlying49
 simp only [probe_Probe_Start.f] at h
 by_cases c1 : a1 < 1
 ·rw [if_pos c1] at h
  simp only [Option.some.injEq, Prod.mk.injEq] at h
  obtain ⟨rfl, rfl⟩ := h
  have c1b : decide (a1 < 1) = true := decide_eq_true c1
  clear c1
  have HS := Aside0.mk hI
  obtain ⟨m, L, h0, hL⟩ := hI
  have HB := Aside0.mk hB
  clear hB
  have hg_0 : w.cell? ⟨g, 0, none⟩ = some (.map (some m)) := (blk_cell h0.blk 0).trans rfl
  have hg_1 : w.cell? ⟨g, 1, none⟩ = some (.int .i64 s0_0.n) := (blk_cell h0.blk 1).trans rfl
  have hg_2 : w.cell? ⟨g, 2, none⟩ = some (.int .i64 s0_0.o) := (blk_cell h0.blk 2).trans rfl
  have hg_3 : w.cell? ⟨g, 3, none⟩ = some (.int .i64 s0_0.b) := (blk_cell h0.blk 3).trans rfl
  have hfg_0 := blk_frozen h0.blk 0
  have hfg_1 := blk_frozen h0.blk 1
  have hfg_2 := blk_frozen h0.blk 2
  have hfg_3 := blk_frozen h0.blk 3
  clear h0 hL
  go_enter Try.func6, Try.ntmps6
  go_wp2
  go_ret
  exact ⟨rfl, by repeat (first | exact HS.out | apply IsS42.alloc | apply IsS42.drewN | apply IsS42.drew), by repeat (first | exact HB.out | apply below_alloc | apply pw_below_drewN | apply below_drew1), by repeat (first | exact KeepT.refl _ | refine KeepT.below ?_ (below_drew (Below.refl _ _)) | refine KeepT.below ?_ (pw_below_drewN (Below.refl _ _) _))⟩
 rw [if_neg c1] at h
 have c1b : decide (a1 < 1) = false := decide_eq_false c1
 clear c1
 by_cases c2 : 17179869184 < a1
 ·rw [if_pos c2] at h
  simp only [Option.some.injEq, Prod.mk.injEq] at h
  obtain ⟨rfl, rfl⟩ := h
  have c2b : decide (17179869184 < a1) = true := decide_eq_true c2
  clear c2
  have HS := Aside0.mk hI
  obtain ⟨m, L, h0, hL⟩ := hI
  have HB := Aside0.mk hB
  clear hB
  have hg_0 : w.cell? ⟨g, 0, none⟩ = some (.map (some m)) := (blk_cell h0.blk 0).trans rfl
  have hg_1 : w.cell? ⟨g, 1, none⟩ = some (.int .i64 s0_0.n) := (blk_cell h0.blk 1).trans rfl
  have hg_2 : w.cell? ⟨g, 2, none⟩ = some (.int .i64 s0_0.o) := (blk_cell h0.blk 2).trans rfl
  have hg_3 : w.cell? ⟨g, 3, none⟩ = some (.int .i64 s0_0.b) := (blk_cell h0.blk 3).trans rfl
  have hfg_0 := blk_frozen h0.blk 0
  have hfg_1 := blk_frozen h0.blk 1
  have hfg_2 := blk_frozen h0.blk 2
  have hfg_3 := blk_frozen h0.blk 3
  clear h0 hL
  go_enter Try.func6, Try.ntmps6
  go_wp2
  go_ret
  exact ⟨rfl, by repeat (first | exact HS.out | apply IsS42.alloc | apply IsS42.drewN | apply IsS42.drew), by repeat (first | exact HB.out | apply below_alloc | apply pw_below_drewN | apply below_drew1), by repeat (first | exact KeepT.refl _ | refine KeepT.below ?_ (below_drew (Below.refl _ _)) | refine KeepT.below ?_ (pw_below_drewN (Below.refl _ _) _))⟩
 rw [if_neg c2] at h
 have c2b : decide (17179869184 < a1) = false := decide_eq_false c2
 clear c2
 by_cases c3 : 0 < s0_0.o
 ·rw [if_pos c3] at h
  simp only [Option.some.injEq, Prod.mk.injEq] at h
  obtain ⟨rfl, rfl⟩ := h
  have c3b : decide (0 < s0_0.o) = true := decide_eq_true c3
  clear c3
  have HS := Aside0.mk hI
  obtain ⟨m, L, h0, hL⟩ := hI
  have HB := Aside0.mk hB
  clear hB
  have hg_0 : w.cell? ⟨g, 0, none⟩ = some (.map (some m)) := (blk_cell h0.blk 0).trans rfl
  have hg_1 : w.cell? ⟨g, 1, none⟩ = some (.int .i64 s0_0.n) := (blk_cell h0.blk 1).trans rfl
  have hg_2 : w.cell? ⟨g, 2, none⟩ = some (.int .i64 s0_0.o) := (blk_cell h0.blk 2).trans rfl
  have hg_3 : w.cell? ⟨g, 3, none⟩ = some (.int .i64 s0_0.b) := (blk_cell h0.blk 3).trans rfl
  have hfg_0 := blk_frozen h0.blk 0
  have hfg_1 := blk_frozen h0.blk 1
  have hfg_2 := blk_frozen h0.blk 2
  have hfg_3 := blk_frozen h0.blk 3
  clear h0 hL
  go_enter Try.func6, Try.ntmps6
  go_wp2
  go_ret
  exact ⟨rfl, by repeat (first | exact HS.out | apply IsS42.alloc | apply IsS42.drewN | apply IsS42.drew), by repeat (first | exact HB.out | apply below_alloc | apply pw_below_drewN | apply below_drew1), by repeat (first | exact KeepT.refl _ | refine KeepT.below ?_ (below_drew (Below.refl _ _)) | refine KeepT.below ?_ (pw_below_drewN (Below.refl _ _) _))⟩
 rw [if_neg c3] at h
 have c3b : decide (0 < s0_0.o) = false := decide_eq_false c3
 clear c3
 obtain ⟨b, A1_, h⟩ := Option.bind_eq_some_iff.mp h
 have A1 := Aside0.mk A1_
 clear A1_
 replace h := Option.bind_eq_some_iff.mp h
 obtain ⟨n, hn_, h⟩ := h
 have hn2 : (if b < 6000 then 6000 else b) = n := Option.some.inj hn_
 clear hn_
 replace h := Option.bind_eq_some_iff.mp h
 obtain ⟨k, hk_, h⟩ := h
 have hk2 : wrap64 (s0_0.n + 1) = k := Option.some.inj hk_
 clear hk_
 by_cases c4 : lk s0_0.l k = none
 rotate_left
 ·rw [if_neg c4] at h; cases h
 rw [if_pos c4] at h
 simp only [Option.some.injEq, Prod.mk.injEq] at h
 obtain ⟨rfl, rfl⟩ := h
 obtain ⟨m, L, h0, hL⟩ := hI
 rw [hL] at c4 ⊢
 have HNO := Aside0.mk (lk_none c4)
 clear c4
 have HP := Aside0.mk (show PF w0 w w g m s0_0.n s0_0.o s0_0.b (keysOf L) (rowsOf L) from ⟨h0, hB, KeepT.refl w⟩)
 have hg_0 : w.cell? ⟨g, 0, none⟩ = some (.map (some m)) := (blk_cell h0.blk 0).trans rfl
 have hg_1 : w.cell? ⟨g, 1, none⟩ = some (.int .i64 s0_0.n) := (blk_cell h0.blk 1).trans rfl
 have hg_2 : w.cell? ⟨g, 2, none⟩ = some (.int .i64 s0_0.o) := (blk_cell h0.blk 2).trans rfl
 have hg_3 : w.cell? ⟨g, 3, none⟩ = some (.int .i64 s0_0.b) := (blk_cell h0.blk 3).trans rfl
 have hfg_0 := blk_frozen h0.blk 0
 have hfg_1 := blk_frozen h0.blk 1
 have hfg_2 := blk_frozen h0.blk 2
 have hfg_3 := blk_frozen h0.blk 3
 clear h0 hB
 go_enter Try.func6, Try.ntmps6
 have hx1_ : (w.setCell ⟨g, 1, none⟩ (.int .i64 k)).cell? ⟨g, 1, none⟩ = some (.int .i64 k) := (blk_cell (HP.out.setg (f0' := k) (f1' := s0_0.o) (f2' := s0_0.b) 1 (.int .i64 k) rfl).1.blk 1).trans rfl
 go_wp2_with (first | ((with_reducible refine gate_callee (f := 17) rfl ?_); refine goesL_ (some 31) rfl rfl Try.func17 (by kernel_rfl) rfl #[.int .i64 a1, .int .i64 15000] rfl (by (try simp only [List.map_toArray, List.map_cons, List.map_nil]); first | done | rfl) ?_; (with_reducible refine (units_Bytes.calls a1 15000 b _ A1.out).mono ?_); rintro e w5 ⟨rfl, hb⟩; refine ⟨_, rfl, ?_⟩; have n0_ := Aside0.mk (PF.below (HP.out.setg (f0' := k) (f1' := s0_0.o) (f2' := s0_0.b) 1 (.int .i64 k) rfl) hb); clear HP hb hx1_; have HP := n0_; clear n0_; clear hg_0 hfg_0 hg_1 hfg_1 hg_2 hfg_2 hg_3 hfg_3; have hg_0 : w5.cell? ⟨g, 0, none⟩ = some (.map (some m)) := (blk_cell HP.out.1.blk 0).trans rfl; have hg_1 : w5.cell? ⟨g, 1, none⟩ = some (.int .i64 k) := (blk_cell HP.out.1.blk 1).trans rfl; have hg_2 : w5.cell? ⟨g, 2, none⟩ = some (.int .i64 s0_0.o) := (blk_cell HP.out.1.blk 2).trans rfl; have hg_3 : w5.cell? ⟨g, 3, none⟩ = some (.int .i64 s0_0.b) := (blk_cell HP.out.1.blk 3).trans rfl; have hfg_0 := blk_frozen HP.out.1.blk 0; have hfg_1 := blk_frozen HP.out.1.blk 1; have hfg_2 := blk_frozen HP.out.1.blk 2; have hfg_3 := blk_frozen HP.out.1.blk 3))
 clear hg_0 hfg_0 hg_1 hfg_1 hg_2 hfg_2 hg_3 hfg_3
 have n0_ := Aside0.mk (PF.drew HP.out)
 clear HP
 have HP := n0_
 clear n0_
 refine start_ (n := 14) (S := fun w' => w'.cell? ⟨g, 0, none⟩ = some (.map (some m)) ∧ w'.cell? ⟨g, 1, none⟩ = some (.int .i64 k)) (ds := [13]) #[false, false, false, false, false, false, false, false, false, false, false, false, false, false] (by kernel_rfl) rfl rfl ⟨(blk_cell HP.out.1.blk 0).trans rfl, (blk_cell HP.out.1.blk 1).trans rfl⟩ (fun hHeld => ?_); refine with_tabW probe_Probe_Start.tab5 probe_Probe_Start.bits5 (fun HT_ HW_ => ?_)
 generalize World.drew w5 = w6 at HP hHeld ⊢
 refine pure_ (i := 0) (N := some 33) (v := ?_) (a' := ?_) #[true, false, false, false, false, false, false, false, false, false, false, false, false, false] rfl rfl (any_of HT_.out (by kernel_rfl)) (fun _ _ _ h => h) (Or.inl ⟨by rfl, ?_⟩) ?_ ?_
 rotate_left
 ·intro w'
  go_simp
  with_reducible rfl
 rotate_left
 ·simp only [Act.put, List.setIfInBounds_toArray, List.set_cons_zero, List.set_cons_succ, i64_w, i32_w]
  rfl
 refine pure_ (i := 1) (N := some 34) (v := ?_) (a' := ?_) #[true, true, false, false, false, false, false, false, false, false, false, false, false, false] rfl rfl (any_of HT_.out (by kernel_rfl)) (fun _ _ _ h => h) (Or.inl ⟨by rfl, ?_⟩) ?_ ?_
 rotate_left
 ·intro w'
  go_simp
  with_reducible rfl
 rotate_left
 ·simp only [Act.put, List.setIfInBounds_toArray, List.set_cons_zero, List.set_cons_succ, i64_w, i32_w]
  rfl
 refine pure_ (i := 2) (N := some 35) (v := ?_) (a' := ?_) #[true, true, true, false, false, false, false, false, false, false, false, false, false, false] rfl rfl (any_of HT_.out (by kernel_rfl)) (fun _ _ _ h => h) (Or.inl ⟨by rfl, ?_⟩) ?_ ?_
 rotate_left
 ·intro w'
  go_simp
  with_reducible rfl
 rotate_left
 ·simp only [Act.put, List.setIfInBounds_toArray, List.set_cons_zero, List.set_cons_succ, i64_w, i32_w]
  rfl
 refine take_ (i := 3) (N := some 36) (v := ?_) (a' := ?_) #[true, true, true, true, false, false, false, false, false, false, false, false, false, false] rfl rfl (take_ofW HT_.out HW_.out (by kernel_rfl)) (fun _ _ _ h => h) (Or.inl ⟨by rfl, ?_⟩) hHeld ?_ ?_
 rotate_left
 ·rintro w' ⟨s0, s1⟩
  go_simp
  with_reducible rfl
 rotate_left
 ·simp only [Act.put, List.setIfInBounds_toArray, List.set_cons_zero, List.set_cons_succ, i64_w, i32_w]
  rfl
 refine pure_ (i := 4) (N := some 37) (v := ?_) (a' := ?_) #[true, true, true, true, true, false, false, false, false, false, false, false, false, false] rfl rfl (any_of HT_.out (by kernel_rfl)) (fun _ _ _ h => h) (Or.inl ⟨by rfl, ?_⟩) ?_ ?_
 rotate_left
 ·intro w'
  go_simp
  with_reducible rfl
 rotate_left
 ·simp only [Act.put, List.setIfInBounds_toArray, List.set_cons_zero, List.set_cons_succ, i64_w, i32_w]
  rfl
 refine pure_ (i := 5) (N := some 38) (v := ?_) (a' := ?_) #[true, true, true, true, true, true, false, false, false, false, false, false, false, false] rfl rfl (any_of HT_.out (by kernel_rfl)) (fun _ _ _ h => h) (Or.inl ⟨by rfl, ?_⟩) ?_ ?_
 rotate_left
 ·intro w'
  go_simp
  with_reducible rfl
 rotate_left
 ·simp only [Act.put, List.setIfInBounds_toArray, List.set_cons_zero, List.set_cons_succ, i64_w, i32_w]
  rfl
 refine pure_ (i := 6) (N := some 39) (v := ?_) (a' := ?_) #[true, true, true, true, true, true, true, false, false, false, false, false, false, false] rfl rfl (any_of HT_.out (by kernel_rfl)) (fun _ _ _ h => h) (Or.inl ⟨by rfl, ?_⟩) ?_ ?_
 rotate_left
 ·intro w'
  go_simp
  with_reducible rfl
 rotate_left
 ·simp only [Act.put, List.setIfInBounds_toArray, List.set_cons_zero, List.set_cons_succ, i64_w, i32_w]
  rfl
 refine take_ (i := 7) (N := some 40) (v := ?_) (a' := ?_) #[true, true, true, true, true, true, true, true, false, false, false, false, false, false] rfl rfl (take_ofW HT_.out HW_.out (by kernel_rfl)) (fun _ _ _ h => h) (Or.inl ⟨by rfl, ?_⟩) hHeld ?_ ?_
 rotate_left
 ·rintro w' ⟨s0, s1⟩
  go_simp
  with_reducible rfl
 rotate_left
 ·simp only [Act.put, List.setIfInBounds_toArray, List.set_cons_zero, List.set_cons_succ, i64_w, i32_w]
  rfl
 refine pure_ (i := 8) (N := some 41) (v := ?_) (a' := ?_) #[true, true, true, true, true, true, true, true, true, false, false, false, false, false] rfl rfl (any_of HT_.out (by kernel_rfl)) (fun _ _ _ h => h) (Or.inl ⟨by rfl, ?_⟩) ?_ ?_
 rotate_left
 ·intro w'
  go_simp
  with_reducible rfl
 rotate_left
 ·simp only [Act.put, List.setIfInBounds_toArray, List.set_cons_zero, List.set_cons_succ, i64_w, i32_w]
  rfl
 refine pure_ (i := 9) (N := some 42) (v := ?_) (a' := ?_) #[true, true, true, true, true, true, true, true, true, true, false, false, false, false] rfl rfl (any_of HT_.out (by kernel_rfl)) (fun _ _ _ h => h) (Or.inl ⟨by rfl, ?_⟩) ?_ ?_
 rotate_left
 ·intro w'
  go_simp
  with_reducible rfl
 rotate_left
 ·simp only [Act.put, List.setIfInBounds_toArray, List.set_cons_zero, List.set_cons_succ, i64_w, i32_w]
  rfl
 refine pure_ (i := 10) (N := some 43) (v := ?_) (a' := ?_) #[true, true, true, true, true, true, true, true, true, true, true, false, false, false] rfl rfl (any_of HT_.out (by kernel_rfl)) (fun _ _ _ h => h) (Or.inl ⟨by rfl, ?_⟩) ?_ ?_
 rotate_left
 ·intro w'
  go_simp
  with_reducible rfl
 rotate_left
 ·simp only [Act.put, List.setIfInBounds_toArray, List.set_cons_zero, List.set_cons_succ, i64_w, i32_w]
  rfl
 refine pure_ (i := 11) (N := some 44) (v := ?_) (a' := ?_) #[true, true, true, true, true, true, true, true, true, true, true, true, false, false] rfl rfl (any_of HT_.out (by kernel_rfl)) (fun _ _ _ h => h) (Or.inl ⟨by rfl, ?_⟩) ?_ ?_
 rotate_left
 ·intro w'
  go_simp
  with_reducible rfl
 rotate_left
 ·simp only [Act.put, List.setIfInBounds_toArray, List.set_cons_zero, List.set_cons_succ, i64_w, i32_w]
  rfl
 refine one_ (i := 12) (N := some 45) #[true, true, true, true, true, true, true, true, true, true, true, true, true, false] rfl rfl (one_of HT_.out (by kernel_rfl)) (by decide) (fun K hK => ?_)
 refine box_step (by rfl) (N := 45) rfl (cs := cluC ⟨a1, n, n, 0, 0, 0, 0, 0, 0, 0, 0⟩) (t := 49) (by first | (go_simp; done) | (go_simp; rfl)) ?_
 intro c hc w7 hbox hb
 have hc0 : w0.heap.size ≤ c := by rw [hc]; exact HP.out.2.1.size
 have hcn : ∀ q ∈ rowsOf L, q.1 ≠ c := fun q hq => by rw [hc]; exact Nat.ne_of_lt (blk_lt (HP.out.1.oth q hq).1)
 have n0_ := Aside0.mk (PF.below HP.out hb)
 clear HP hb hc
 have HP := n0_
 clear n0_
 have n1_ := Aside0.mk (show PF w0 w w7 g m k s0_0.o s0_0.b (keysOf L) (rowsOf L ++ [(c, cluC ⟨a1, n, n, 0, 0, 0, 0, 0, 0, 0, 0⟩)]) from ⟨HP.out.1.more hbox hc0 hcn, HP.out.2.1, HP.out.2.2⟩)
 clear HP hbox hc0 hcn
 have HP := n1_
 clear n1_
 refine hK.out _ _ ⟨(blk_cell HP.out.1.blk 0).trans rfl, (blk_cell HP.out.1.blk 1).trans rfl⟩ (fun hHeld => ?_)
 clear hK K
 refine norm_ (a' := ?_) ?_ ?_
 rotate_left
 ·show Act.put _ (some 45) _ = _
  simp only [Act.put, List.setIfInBounds_toArray, List.set_cons_zero, List.set_cons_succ, i64_w, i32_w]
  rfl
 obtain ⟨w8, hpu, han, hma⟩ := put_new (c := c) Try.underlying40 Try.underlying3 HP.out.1.mp HNO.out
 have n0_ := Aside0.mk (PF.anew HP.out han hma)
 clear HP han hma
 have HP := n0_
 clear n0_
 refine last_ (i := 13) (N := none) #[true, true, true, true, true, true, true, true, true, true, true, true, true, true] rfl rfl (one_of HT_.out (by kernel_rfl)) (by decide) (fun K hK => ?_)
 refine skip_ (w1 := w8) (by rfl) rfl ?_ ?_
 ·go_simp
 clear hpu
 refine hK.out _ _ ?_
 clear hK K
 refine done_ (done_of HT_.out (by kernel_rfl)) ?_
 clear hHeld HT_ HW_
 try go_wp2
 have n0_ := Aside0.mk (PF.drew HP.out)
 clear HP
 have HP := n0_
 clear n0_
 refine start_ (n := 10) (S := fun w' => w'.cell? ⟨g, 0, none⟩ = some (.map (some m)) ∧ w'.cell? ⟨g, 1, none⟩ = some (.int .i64 k)) (ds := [9]) #[false, false, false, false, false, false, false, false, false, false] (by kernel_rfl) rfl rfl ⟨(blk_cell HP.out.1.blk 0).trans rfl, (blk_cell HP.out.1.blk 1).trans rfl⟩ (fun hHeld => ?_); refine with_tabW probe_Probe_Start.tab6 probe_Probe_Start.bits6 (fun HT_ HW_ => ?_)
 generalize World.drew w8 = w9 at HP hHeld ⊢
 refine pure_ (i := 0) (N := some 46) (v := ?_) (a' := ?_) #[true, false, false, false, false, false, false, false, false, false] rfl rfl (any_of HT_.out (by kernel_rfl)) (fun _ _ _ h => h) (Or.inl ⟨by rfl, ?_⟩) ?_ ?_
 rotate_left
 ·intro w'
  go_simp
  with_reducible rfl
 rotate_left
 ·simp only [Act.put, List.setIfInBounds_toArray, List.set_cons_zero, List.set_cons_succ, i64_w, i32_w]
  rfl
 refine pure_ (i := 1) (N := some 47) (v := ?_) (a' := ?_) #[true, true, false, false, false, false, false, false, false, false] rfl rfl (any_of HT_.out (by kernel_rfl)) (fun _ _ _ h => h) (Or.inl ⟨by rfl, ?_⟩) ?_ ?_
 rotate_left
 ·intro w'
  go_simp
  with_reducible rfl
 rotate_left
 ·simp only [Act.put, List.setIfInBounds_toArray, List.set_cons_zero, List.set_cons_succ, i64_w, i32_w]
  rfl
 refine pure_ (i := 2) (N := some 48) (v := ?_) (a' := ?_) #[true, true, true, false, false, false, false, false, false, false] rfl rfl (any_of HT_.out (by kernel_rfl)) (fun _ _ _ h => h) (Or.inl ⟨by rfl, ?_⟩) ?_ ?_
 rotate_left
 ·intro w'
  go_simp
  with_reducible rfl
 rotate_left
 ·simp only [Act.put, List.setIfInBounds_toArray, List.set_cons_zero, List.set_cons_succ, i64_w, i32_w]
  rfl
 refine take_ (i := 3) (N := some 49) (v := ?_) (a' := ?_) #[true, true, true, true, false, false, false, false, false, false] rfl rfl (take_ofW HT_.out HW_.out (by kernel_rfl)) (fun _ _ _ h => h) (Or.inl ⟨by rfl, ?_⟩) hHeld ?_ ?_
 rotate_left
 ·rintro w' ⟨s0, s1⟩
  go_simp
  with_reducible rfl
 rotate_left
 ·simp only [Act.put, List.setIfInBounds_toArray, List.set_cons_zero, List.set_cons_succ, i64_w, i32_w]
  rfl
 refine pure_ (i := 4) (N := some 50) (v := ?_) (a' := ?_) #[true, true, true, true, true, false, false, false, false, false] rfl rfl (any_of HT_.out (by kernel_rfl)) (fun _ _ _ h => h) (Or.inl ⟨by rfl, ?_⟩) ?_ ?_
 rotate_left
 ·intro w'
  go_simp
  with_reducible rfl
 rotate_left
 ·simp only [Act.put, List.setIfInBounds_toArray, List.set_cons_zero, List.set_cons_succ, i64_w, i32_w]
  rfl
 refine pure_ (i := 5) (N := some 51) (v := ?_) (a' := ?_) #[true, true, true, true, true, true, false, false, false, false] rfl rfl (any_of HT_.out (by kernel_rfl)) (fun _ _ _ h => h) (Or.inl ⟨by rfl, ?_⟩) ?_ ?_
 rotate_left
 ·intro w'
  go_simp
  with_reducible rfl
 rotate_left
 ·simp only [Act.put, List.setIfInBounds_toArray, List.set_cons_zero, List.set_cons_succ, i64_w, i32_w]
  rfl
 refine pure_ (i := 6) (N := some 52) (v := ?_) (a' := ?_) #[true, true, true, true, true, true, true, false, false, false] rfl rfl (any_of HT_.out (by kernel_rfl)) (fun _ _ _ h => h) (Or.inl ⟨by rfl, ?_⟩) ?_ ?_
 rotate_left
 ·intro w'
  go_simp
  with_reducible rfl
 rotate_left
 ·simp only [Act.put, List.setIfInBounds_toArray, List.set_cons_zero, List.set_cons_succ, i64_w, i32_w]
  rfl
 refine take_ (i := 7) (N := some 53) (v := ?_) (a' := ?_) #[true, true, true, true, true, true, true, true, false, false] rfl rfl (take_ofW HT_.out HW_.out (by kernel_rfl)) (fun _ _ _ h => h) (Or.inl ⟨by rfl, ?_⟩) hHeld ?_ ?_
 rotate_left
 ·rintro w' ⟨s0, s1⟩
  go_simp
  with_reducible rfl
 rotate_left
 ·simp only [Act.put, List.setIfInBounds_toArray, List.set_cons_zero, List.set_cons_succ, i64_w, i32_w]
  rfl
 refine pure_ (i := 8) (N := some 54) (v := ?_) (a' := ?_) #[true, true, true, true, true, true, true, true, true, false] rfl rfl (any_of HT_.out (by kernel_rfl)) (fun _ _ _ h => h) (Or.inl ⟨by rfl, ?_⟩) ?_ ?_
 rotate_left
 ·intro w'
  go_simp
  with_reducible rfl
 rotate_left
 ·simp only [Act.put, List.setIfInBounds_toArray, List.set_cons_zero, List.set_cons_succ, i64_w, i32_w]
  rfl
 have hke : keysOf L ++ [(k, c)] = keysOf (L ++ [(k, c, ⟨a1, n, n, 0, 0, 0, 0, 0, 0, 0, 0⟩)]) := by simp [keysOf]
 have hre : rowsOf L ++ [(c, cluC ⟨a1, n, n, 0, 0, 0, 0, 0, 0, 0, 0⟩)] = rowsOf (L ++ [(k, c, ⟨a1, n, n, 0, 0, 0, 0, 0, 0, 0, 0⟩)]) := by simp [rowsOf]
 have hve : valsOf L ++ [(k, ⟨a1, n, n, 0, 0, 0, 0, 0, 0, 0, 0⟩)] = valsOf (L ++ [(k, c, ⟨a1, n, n, 0, 0, 0, 0, 0, 0, 0, 0⟩)]) := by simp [valsOf]
 rw [hke, hre] at HP
 obtain ⟨L', hk3, hv3, hs3⟩ := keys_rm (L ++ [(k, c, ⟨a1, n, n, 0, 0, 0, 0, 0, 0, 0, 0⟩)]) (wrap64 (k - 4))
 have hdl := fun ty => del_key (P := Try.prog) Try.underlying40 Try.underlying3 HP.out.1.mp (wrap64 (k - 4)) ty
 obtain ⟨w10, hdr, han, hma⟩ := hdl 0
 rw [hk3] at hma
 have n0_ := Aside0.mk (PF.anew HP.out han hma)
 clear HP han hma hdl
 have HP := n0_
 clear n0_
 refine last_ (i := 9) (N := none) #[true, true, true, true, true, true, true, true, true, true] rfl rfl (one_of HT_.out (by kernel_rfl)) (by decide) (fun K hK => ?_)
 refine value_ (v := .tuple #[]) (w1 := w10) (by rfl) rfl ?_ ?_
 ·go_simp
 clear hdr
 refine hK.out _ _ ?_
 clear hK K
 refine done_ (done_of HT_.out (by kernel_rfl)) ?_
 clear hHeld HT_ HW_
 have hg_0 : w10.cell? ⟨g, 0, none⟩ = some (.map (some m)) := (blk_cell HP.out.1.blk 0).trans rfl
 have hg_1 : w10.cell? ⟨g, 1, none⟩ = some (.int .i64 k) := (blk_cell HP.out.1.blk 1).trans rfl
 have hg_2 : w10.cell? ⟨g, 2, none⟩ = some (.int .i64 s0_0.o) := (blk_cell HP.out.1.blk 2).trans rfl
 have hg_3 : w10.cell? ⟨g, 3, none⟩ = some (.int .i64 s0_0.b) := (blk_cell HP.out.1.blk 3).trans rfl
 have hfg_0 := blk_frozen HP.out.1.blk 0
 have hfg_1 := blk_frozen HP.out.1.blk 1
 have hfg_2 := blk_frozen HP.out.1.blk 2
 have hfg_3 := blk_frozen HP.out.1.blk 3
 have hx2_ : (w10.setCell ⟨g, 2, none⟩ (.int .i64 k)).cell? ⟨g, 1, none⟩ = some (.int .i64 k) := (blk_cell (HP.out.setg (f0' := k) (f1' := k) (f2' := s0_0.b) 2 (.int .i64 k) rfl).1.blk 1).trans rfl
 go_wp2
 have hF := HP.out.setg (f0' := k) (f1' := k) (f2' := s0_0.b) 2 (.int .i64 k) rfl
 go_ret
 exact ⟨rfl, ⟨m, L', hF.1.less hs3, by rw [← hv3, ← hve]⟩, hF.2.1, hF.2.2⟩
theorem flywheelref26_Probe_open.last {w0 W : World} {A : Option Addr} {n c : Nat} {vs : List (Int × Int × Int × (Option Addr × Nat × Nat))} {l : List RCl} (h3 : Kd.R kC 52 W w0.heap.size (fun _ => True) (.slice A n c) vs) (h4 : RelC w0 W vs l) (hl : l.length < 1000000) {x : RCl} (hx : l.getLast? = some x) :
  n = l.length ∧ ∃ ji : Int, IntKind.i64.wrap ((n : Int) - 1) = ji ∧ ji = (n : Int) - 1 ∧ 0 ≤ ji ∧ ji < (n : Int) ∧ ∃ v, vs[ji.toNat]? = some v ∧ ClR w0 W v x := by
 obtain ⟨hn, _, _⟩ := Kd.R_reads' h3
 have hn2 : n = l.length := hn.trans h4.len
 have hp : 0 < l.length := by
  cases l with
  | nil => cases hx
  | cons a b => simp
 have e : wrap64 ((n : Int) - 1) = (n : Int) - 1 := by unfold wrap64; omega
 obtain ⟨v, hv, hr⟩ := h4.at_ (l.length - 1) x (by rw [← List.getLast?_eq_getElem?]; exact hx)
 exact ⟨hn2, (n : Int) - 1, (i64_w _).trans e, rfl, by omega, by omega, v, by rw [show ((n : Int) - 1).toNat = l.length - 1 by omega]; exact hv, hr⟩
set_option maxHeartbeats 16000000 in
set_option maxRecDepth 100000 in
theorem flywheelref26_Probe_open.calls (g : Nat) (s : PrS) (w0 w : World) (hI : IsS45 w0 w g s) (hl : s.l.length < 1000000) :
  Calls Try.prog 18 #[.pointer (some ⟨g, 0, none⟩)] w fun e w' => e = .returned (.bool (prOpen s)) ∧ Drawn0 w w' := by
 obtain ⟨A, n, c, vs, h1, h2, h3, h4⟩ := hI
 have hg_0 : w.cell? ⟨g, 0, none⟩ = some (.slice A n c) := (blk_cell h1 0).trans rfl
 clear h1 h2
 unfold prOpen
 cases hq : s.l.getLast? with
 | none =>
  have hn : n = 0 := by
   obtain ⟨hn, _, _⟩ := Kd.R_reads' h3
   rw [hn, h4.len, List.getLast?_eq_none_iff.1 hq]; rfl
  subst hn
  clear h3 h4 hl hq
  go_enter Try.func18, Try.ntmps18
  go_wp2
  repeat (go_quiet (fail); try go_wp2)
  go_ret
  exact ⟨rfl, by first | exact ⟨0, rfl⟩ | exact ⟨_, rfl⟩⟩
 | some x =>
  obtain ⟨hn, ji, hji, hj1, p0, q0, v, hv, hr⟩ := flywheelref26_Probe_open.last h3 h4 hl hq
  obtain ⟨hcA, hcB, hC⟩ := Kd.R_reads' h3
  rw [← hcA] at hC
  obtain ⟨ad, e1, hx0, hx1, hx2, hx3⟩ := at_kC hC ji p0 q0 hv
  subst e1
  have c2b0 : decide (0 < (n : Int)) = true := decide_eq_true (by omega)
  have c2b1 : decide (0 < n) = true := decide_eq_true (by omega)
  obtain ⟨r0, r1, r2, r3⟩ := hr
  rw [r1] at hx1
  rw [r2] at hx2
  clear h3 h4 hl hq hn hv hC r0 r1 r2 r3 hj1 hcA hcB
  replace p0 := eq_true p0
  replace q0 := eq_true q0
  go_enter Try.func18, Try.ntmps18
  go_wp2
  repeat (go_quiet (fail); try go_wp2)
  go_ret
  exact ⟨rfl, by first | exact ⟨0, rfl⟩ | exact ⟨_, rfl⟩⟩
def flywheelref02_part.l0 : Nat → Int → Int → Int → Int → Int → Bool → Int → Option (Int × Bool × Int)
 | 0, _, _, _, _, _, _, _ => none
 | k + 1, x1, x6, x119000, x119001, x121000, x121001, x121002 => if x6 ≥ 0 then (if x121001 = true then (if (IntKind.u64.wrap ((IntKind.u64.wrap (x121002 * 2)) + (x119000 / 9223372036854775808))) ≥ x1 then (flywheelref02_part.l0 k x1 (wrap64 (x6 - 1)) (IntKind.u64.wrap ((IntKind.u64.wrap (x119000 * 2)) + (x119001 / 9223372036854775808))) (IntKind.u64.wrap (x119001 * 2)) (IntKind.u64.wrap ((IntKind.u64.wrap (x121000 * 2)) + 1)) true (IntKind.u64.wrap ((IntKind.u64.wrap ((IntKind.u64.wrap (x121002 * 2)) + (x119000 / 9223372036854775808))) - x1))) else (flywheelref02_part.l0 k x1 (wrap64 (x6 - 1)) (IntKind.u64.wrap ((IntKind.u64.wrap (x119000 * 2)) + (x119001 / 9223372036854775808))) (IntKind.u64.wrap (x119001 * 2)) (IntKind.u64.wrap (x121000 * 2)) true (IntKind.u64.wrap ((IntKind.u64.wrap (x121002 * 2)) + (x119000 / 9223372036854775808))))) else (if (IntKind.u64.wrap ((IntKind.u64.wrap (x121002 * 2)) + (x119000 / 9223372036854775808))) ≥ x1 then (flywheelref02_part.l0 k x1 (wrap64 (x6 - 1)) (IntKind.u64.wrap ((IntKind.u64.wrap (x119000 * 2)) + (x119001 / 9223372036854775808))) (IntKind.u64.wrap (x119001 * 2)) (IntKind.u64.wrap ((IntKind.u64.wrap (x121000 * 2)) + 1)) ((x121000 / 9223372036854775808) == 1) (IntKind.u64.wrap ((IntKind.u64.wrap ((IntKind.u64.wrap (x121002 * 2)) + (x119000 / 9223372036854775808))) - x1))) else (flywheelref02_part.l0 k x1 (wrap64 (x6 - 1)) (IntKind.u64.wrap ((IntKind.u64.wrap (x119000 * 2)) + (x119001 / 9223372036854775808))) (IntKind.u64.wrap (x119001 * 2)) (IntKind.u64.wrap (x121000 * 2)) ((x121000 / 9223372036854775808) == 1) (IntKind.u64.wrap ((IntKind.u64.wrap (x121002 * 2)) + (x119000 / 9223372036854775808)))))) else (some (x121000, x121001, x121002))
def flywheelref02_part.f (k : Nat) (a0_0 : Int) (a0_1 : Int) (a1 : Int) : Option (Int × Bool × Int) := flywheelref02_part.l0 k a1 127 a0_0 a0_1 0 false 0
set_option maxHeartbeats 8000000 in
set_option maxRecDepth 100000 in
theorem flywheelref02_part.calls (k : Nat) (a0_0 : Int) (a0_1 : Int) (a1 : Int) (r1 : Int) (r2 : Bool) (r3 : Int) (w : World) (h : flywheelref02_part.f k a0_0 a0_1 a1 = some (r1, r2, r3)) :
  Calls Try.prog 33 #[.agg #[.int .u64 a0_0, .int .u64 a0_1], .int .u64 a1] w fun e w' => e = .returned (.agg #[.int .u64 r1, .bool r2, .int .u64 r3]) ∧ Below w.heap.size w w' := by
 have hu72 := Try.underlying72
 have hu69 := Try.underlying69
 have HB := Aside0.mk (Below.refl w.heap.size w)
 have H : (flywheelref02_part.l0 k a1 127 a0_0 a0_1 0 false 0) = some (r1, r2, r3) := h
 clear h
 have H' := Aside0.mk H
 clear H
 go_enter Try.func33, Try.ntmps33
 go_wp2_with (first | ((with_reducible refine gate_dst (N := 2) rfl ?_); refine box_event ?hg (N := 2) ?hd (cs := #[.int .u64 a0_0, .int .u64 a0_1]) (t := 72) ?hr ?_; (case hd => rfl); (case hg => rfl); (case hr => first | (go_simp; done) | (go_simp; rfl)); intro gb118 hg w3 hbox hb; have n0_ := Aside0.mk (below_step (by repeat (first | (with_reducible first | exact HB.out | apply below_alloc | apply pw_below_drewN | apply below_drew1) | exact HB.out)) hb); have n1_ := Aside0.mk (hbox); have n2_ := Aside0.mk ((by rw [hg]; exact (below_size (by repeat (first | (with_reducible first | exact HB.out | apply below_alloc | apply pw_below_drewN | apply below_drew1) | exact HB.out))) : w.heap.size ≤ gb118)); have n3_ := Aside0.mk ((by rw [hg]; exact (below_size (by repeat (first | (with_reducible first | exact HB.out | apply below_alloc | apply pw_below_drewN | apply below_drew1) | exact HB.out))) : w.heap.size ≤ gb118)); clear HB; have HB := n0_; have BK118 := n1_; have GW118 := n2_; have GE118 := n3_; clear n0_ n1_ n2_ n3_; clear hb hbox hg) | ((with_reducible refine gate_dst (N := 4) rfl ?_); refine box_event ?hg (N := 4) ?hd (cs := #[.int .u64 0, .bool false, .int .u64 0]) (t := 69) ?hr ?_; (case hd => rfl); (case hg => rfl); (case hr => first | (go_simp; done) | (go_simp; rfl)); intro gb119 hg w4 hbox hb; have n0_ := Aside0.mk (blk_below (g := gb118) (o := .cells #[.int .u64 a0_0, .int .u64 a0_1] 72 (0, 0)) (by (with_reducible repeat (first | refine blk_drewN ?_ _ | refine blk_drew ?_ | refine blk_alloc ?_ _)); exact BK118.out) hb); have n1_ := Aside0.mk (below_step (by repeat (first | (with_reducible first | exact HB.out | apply below_alloc | apply pw_below_drewN | apply below_drew1 | refine below_set ?_ GE118.out) | exact HB.out)) hb); have n2_ := Aside0.mk (hbox); have n3_ := Aside0.mk ((by rw [hg]; exact (below_size (by repeat (first | (with_reducible first | exact HB.out | apply below_alloc | apply pw_below_drewN | apply below_drew1 | refine below_set ?_ GE118.out) | exact HB.out))) : w.heap.size ≤ gb119)); have n4_ := Aside0.mk ((by rw [hg]; exact (below_size (by repeat (first | (with_reducible first | exact HB.out | apply below_alloc | apply pw_below_drewN | apply below_drew1 | refine below_set ?_ GE118.out) | exact HB.out))) : w.heap.size ≤ gb119)); have n5_ := Aside0.mk ((by rw [hg]; exact Nat.ne_of_lt (blk_lt (g := gb118) (o := .cells #[.int .u64 a0_0, .int .u64 a0_1] 72 (0, 0)) (by (with_reducible repeat (first | refine blk_drewN ?_ _ | refine blk_drew ?_ | refine blk_alloc ?_ _)); exact BK118.out)) : gb118 ≠ gb119)); have n6_ := Aside0.mk ((by rw [hg]; exact Nat.ne_of_gt (blk_lt (g := gb118) (o := .cells #[.int .u64 a0_0, .int .u64 a0_1] 72 (0, 0)) (by (with_reducible repeat (first | refine blk_drewN ?_ _ | refine blk_drew ?_ | refine blk_alloc ?_ _)); exact BK118.out)) : gb119 ≠ gb118)); clear BK118; clear HB; have BK118 := n0_; have HB := n1_; have BK119 := n2_; have GW119 := n3_; have GE119 := n4_; have NB118_119 := n5_; have NB119_118 := n6_; clear n0_ n1_ n2_ n3_ n4_ n5_ n6_; clear hb hbox hg) | ((with_reducible refine gate_dst (N := 5) rfl ?_); refine box_event ?hg (N := 5) ?hd (cs := #[.int .u64 0, .bool false, .int .u64 0]) (t := 69) ?hr ?_; (case hd => rfl); (case hg => rfl); (case hr => first | (go_simp; done) | (go_simp; rfl)); intro gb120 hg w5 hbox hb; have n0_ := Aside0.mk (blk_below (g := gb118) (o := .cells #[.int .u64 a0_0, .int .u64 a0_1] 72 (0, 0)) (by (with_reducible repeat (first | refine blk_drewN ?_ _ | refine blk_drew ?_ | refine blk_alloc ?_ _)); exact BK118.out) hb); have n1_ := Aside0.mk (blk_below (g := gb119) (o := .cells #[.int .u64 0, .bool false, .int .u64 0] 69 (0, 0)) (by (with_reducible repeat (first | refine blk_drewN ?_ _ | refine blk_drew ?_ | refine blk_alloc ?_ _)); exact BK119.out) hb); have n2_ := Aside0.mk (below_step (by repeat (first | (with_reducible first | exact HB.out | apply below_alloc | apply pw_below_drewN | apply below_drew1 | refine below_set ?_ GE118.out | refine below_set ?_ GE119.out) | exact HB.out)) hb); have n3_ := Aside0.mk (hbox); have n4_ := Aside0.mk ((by rw [hg]; exact (below_size (by repeat (first | (with_reducible first | exact HB.out | apply below_alloc | apply pw_below_drewN | apply below_drew1 | refine below_set ?_ GE118.out | refine below_set ?_ GE119.out) | exact HB.out))) : w.heap.size ≤ gb120)); have n5_ := Aside0.mk ((by rw [hg]; exact (below_size (by repeat (first | (with_reducible first | exact HB.out | apply below_alloc | apply pw_below_drewN | apply below_drew1 | refine below_set ?_ GE118.out | refine below_set ?_ GE119.out) | exact HB.out))) : w.heap.size ≤ gb120)); have n6_ := Aside0.mk ((by rw [hg]; exact Nat.ne_of_lt (blk_lt (g := gb118) (o := .cells #[.int .u64 a0_0, .int .u64 a0_1] 72 (0, 0)) (by (with_reducible repeat (first | refine blk_drewN ?_ _ | refine blk_drew ?_ | refine blk_alloc ?_ _)); exact BK118.out)) : gb118 ≠ gb120)); have n7_ := Aside0.mk ((by rw [hg]; exact Nat.ne_of_gt (blk_lt (g := gb118) (o := .cells #[.int .u64 a0_0, .int .u64 a0_1] 72 (0, 0)) (by (with_reducible repeat (first | refine blk_drewN ?_ _ | refine blk_drew ?_ | refine blk_alloc ?_ _)); exact BK118.out)) : gb120 ≠ gb118)); have n8_ := Aside0.mk ((by rw [hg]; exact Nat.ne_of_lt (blk_lt (g := gb119) (o := .cells #[.int .u64 0, .bool false, .int .u64 0] 69 (0, 0)) (by (with_reducible repeat (first | refine blk_drewN ?_ _ | refine blk_drew ?_ | refine blk_alloc ?_ _)); exact BK119.out)) : gb119 ≠ gb120)); have n9_ := Aside0.mk ((by rw [hg]; exact Nat.ne_of_gt (blk_lt (g := gb119) (o := .cells #[.int .u64 0, .bool false, .int .u64 0] 69 (0, 0)) (by (with_reducible repeat (first | refine blk_drewN ?_ _ | refine blk_drew ?_ | refine blk_alloc ?_ _)); exact BK119.out)) : gb120 ≠ gb119)); clear BK118; clear BK119; clear HB; have BK118 := n0_; have BK119 := n1_; have HB := n2_; have BK120 := n3_; have GW120 := n4_; have GE120 := n5_; have NB118_120 := n6_; have NB120_118 := n7_; have NB119_120 := n8_; have NB120_119 := n9_; clear n0_ n1_ n2_ n3_ n4_ n5_ n6_ n7_ n8_ n9_; clear hb hbox hg; have hnb6 := NB120_118.out; have hnc6 := NB118_120.out; have hnb7 := NB120_119.out; have hnc7 := NB119_120.out; have hcz8_0 : w5.cell? ⟨gb120, 0, none⟩ = some (.int .u64 0) := (blk_cell BK120.out 0).trans rfl; have hcz8_1 : w5.cell? ⟨gb120, 1, none⟩ = some (.bool false) := (blk_cell BK120.out 1).trans rfl; have hcz8_2 : w5.cell? ⟨gb120, 2, none⟩ = some (.int .u64 0) := (blk_cell BK120.out 2).trans rfl; have hfz8_0 := blk_frozen BK120.out 0; have hfz8_1 := blk_frozen BK120.out 1; have hfz8_2 := blk_frozen BK120.out 2))
 go_loopg [6] k (fun kq v6 w' => ∃ (x6_1 : Int) (x119000_1 : Int) (x119001_1 : Int) (x121000_1 : Int) (x121001_1 : Bool) (x121002_1 : Int), v6 = .int .i64 x6_1 ∧ Aside0 (flywheelref02_part.l0 kq a1 x6_1 x119000_1 x119001_1 x121000_1 x121001_1 x121002_1 = some (r1, r2, r3)) ∧ Aside0 (kq ≤ k) ∧ Aside0 (w'.heap[gb118]? = some (.cells #[.int .u64 x119000_1, .int .u64 x119001_1] 72 (0, 0))) ∧ Aside0 (w'.heap[gb119]? = some (.cells #[.int .u64 0, .bool false, .int .u64 0] 69 (0, 0))) ∧ Aside0 (w'.heap[gb120]? = some (.cells #[.int .u64 x121000_1, .bool x121001_1, .int .u64 x121002_1] 69 (0, 0))) ∧ Aside0 (Below w.heap.size w w'))
 case atStart => exact ⟨(127), (a0_0), (a0_1), (0), (false), (0), (by first | rfl | (simp; done) | (simp [*]; done)), H', ⟨Nat.le_refl _⟩, ⟨by (with_reducible repeat (first | refine blk_drewN ?_ _ | refine blk_drew ?_ | refine blk_alloc ?_ _)); refine blk_far ?_ NB118_120.out _; (with_reducible repeat (first | refine blk_drewN ?_ _ | refine blk_drew ?_ | refine blk_alloc ?_ _)); refine blk_far ?_ NB118_120.out _; (with_reducible repeat (first | refine blk_drewN ?_ _ | refine blk_drew ?_ | refine blk_alloc ?_ _)); refine blk_far ?_ NB118_120.out _; (with_reducible repeat (first | refine blk_drewN ?_ _ | refine blk_drew ?_ | refine blk_alloc ?_ _)); exact BK118.out⟩, ⟨by (with_reducible repeat (first | refine blk_drewN ?_ _ | refine blk_drew ?_ | refine blk_alloc ?_ _)); refine blk_far ?_ NB119_120.out _; (with_reducible repeat (first | refine blk_drewN ?_ _ | refine blk_drew ?_ | refine blk_alloc ?_ _)); refine blk_far ?_ NB119_120.out _; (with_reducible repeat (first | refine blk_drewN ?_ _ | refine blk_drew ?_ | refine blk_alloc ?_ _)); refine blk_far ?_ NB119_120.out _; (with_reducible repeat (first | refine blk_drewN ?_ _ | refine blk_drew ?_ | refine blk_alloc ?_ _)); exact BK119.out⟩, ⟨by (with_reducible repeat (first | refine blk_drewN ?_ _ | refine blk_drew ?_ | refine blk_alloc ?_ _)); refine blk_put (cs := #[.int .u64 0, .bool false, .int .u64 0]) ?_ 2 _ rfl; (with_reducible repeat (first | refine blk_drewN ?_ _ | refine blk_drew ?_ | refine blk_alloc ?_ _)); refine blk_put (cs := #[.int .u64 0, .bool false, .int .u64 0]) ?_ 1 _ rfl; (with_reducible repeat (first | refine blk_drewN ?_ _ | refine blk_drew ?_ | refine blk_alloc ?_ _)); refine blk_put (cs := #[.int .u64 0, .bool false, .int .u64 0]) ?_ 0 _ rfl; (with_reducible repeat (first | refine blk_drewN ?_ _ | refine blk_drew ?_ | refine blk_alloc ?_ _)); exact BK120.out⟩, ⟨by repeat (first | (with_reducible first | exact HB.out | apply below_alloc | apply pw_below_drewN | apply below_drew1 | refine below_set ?_ GE118.out | refine below_set ?_ GE119.out | refine below_set ?_ GE120.out) | exact HB.out)⟩⟩
 case round =>
  clear H'
  try clear p2
  try clear c3
  try clear c6
  try clear c7
  try clear hcz8_0
  try clear hcz8_1
  try clear hcz8_2
  try clear hfz8_0
  try clear hfz8_1
  try clear hfz8_2
  obtain ⟨x6_1, x119000_1, x119001_1, x121000_1, x121001_1, x121002_1, rfl, HA, HK1, BK118, BK119, BK120, HB⟩ := hrel
  cases gk with
  | zero => exact absurd HA.out (by simp [flywheelref02_part.l0])
  | succ k1 =>
   have H := HA.out
   clear HA
   simp only [flywheelref02_part.l0] at H
   by_cases c9 : x6_1 ≥ 0
   ·rw [if_pos c9] at H
    have c9b0 : decide (0 ≤ x6_1) = true := decide_eq_true c9
    clear c9
    by_cases c10 : x121001_1 = true
    ·subst c10
     have H1 : (if (IntKind.u64.wrap ((IntKind.u64.wrap (x121002_1 * 2)) + (x119000_1 / 9223372036854775808))) ≥ a1 then (flywheelref02_part.l0 k1 a1 (wrap64 (x6_1 - 1)) (IntKind.u64.wrap ((IntKind.u64.wrap (x119000_1 * 2)) + (x119001_1 / 9223372036854775808))) (IntKind.u64.wrap (x119001_1 * 2)) (IntKind.u64.wrap ((IntKind.u64.wrap (x121000_1 * 2)) + 1)) true (IntKind.u64.wrap ((IntKind.u64.wrap ((IntKind.u64.wrap (x121002_1 * 2)) + (x119000_1 / 9223372036854775808))) - a1))) else (flywheelref02_part.l0 k1 a1 (wrap64 (x6_1 - 1)) (IntKind.u64.wrap ((IntKind.u64.wrap (x119000_1 * 2)) + (x119001_1 / 9223372036854775808))) (IntKind.u64.wrap (x119001_1 * 2)) (IntKind.u64.wrap (x121000_1 * 2)) true (IntKind.u64.wrap ((IntKind.u64.wrap (x121002_1 * 2)) + (x119000_1 / 9223372036854775808))))) = some (r1, r2, r3) := by rw [if_pos rfl] at H; exact H
     clear H
     have H := H1
     clear H1
     by_cases c11 : (IntKind.u64.wrap ((IntKind.u64.wrap (x121002_1 * 2)) + (x119000_1 / 9223372036854775808))) ≥ a1
     ·rw [if_pos c11] at H
      have c11b0 : decide (a1 ≤ (IntKind.u64.wrap ((IntKind.u64.wrap (x121002_1 * 2)) + (x119000_1 / 9223372036854775808)))) = true := decide_eq_true c11
      clear c11
      have H' := Aside0.mk H
      clear H
      have hnb12 := NB118_119.out
      have hnc12 := NB119_118.out
      have hnb13 := NB118_120.out
      have hnc13 := NB120_118.out
      have hcz14_0 : wr.cell? ⟨gb118, 0, none⟩ = some (.int .u64 x119000_1) := (blk_cell BK118.out 0).trans rfl
      have hcz14_1 : wr.cell? ⟨gb118, 1, none⟩ = some (.int .u64 x119001_1) := (blk_cell BK118.out 1).trans rfl
      have hfz14_0 := blk_frozen BK118.out 0
      have hfz14_1 := blk_frozen BK118.out 1
      have hnb15 := NB120_119.out
      have hnc15 := NB119_120.out
      have hcz16_0 : wr.cell? ⟨gb120, 0, none⟩ = some (.int .u64 x121000_1) := (blk_cell BK120.out 0).trans rfl
      have hcz16_1 : wr.cell? ⟨gb120, 1, none⟩ = some (.bool true) := (blk_cell BK120.out 1).trans rfl
      have hcz16_2 : wr.cell? ⟨gb120, 2, none⟩ = some (.int .u64 x121002_1) := (blk_cell BK120.out 2).trans rfl
      have hfz16_0 := blk_frozen BK120.out 0
      have hfz16_1 := blk_frozen BK120.out 1
      have hfz16_2 := blk_frozen BK120.out 2
      go_wp2
      go_roundg k1
      case measure => have := HK1.out; omega
      case rel => exact ⟨(wrap64 (x6_1 - 1)), (IntKind.u64.wrap ((IntKind.u64.wrap (x119000_1 * 2)) + (x119001_1 / 9223372036854775808))), (IntKind.u64.wrap (x119001_1 * 2)), (IntKind.u64.wrap ((IntKind.u64.wrap (x121000_1 * 2)) + 1)), (true), (IntKind.u64.wrap ((IntKind.u64.wrap ((IntKind.u64.wrap (x121002_1 * 2)) + (x119000_1 / 9223372036854775808))) - a1)), (by first | rfl | (simp; done) | (simp [*]; done)), H', ⟨by have := HK1.out; omega⟩, ⟨by (with_reducible repeat (first | refine blk_drewN ?_ _ | refine blk_drew ?_ | refine blk_alloc ?_ _)); refine blk_far ?_ NB118_120.out _; (with_reducible repeat (first | refine blk_drewN ?_ _ | refine blk_drew ?_ | refine blk_alloc ?_ _)); refine blk_far ?_ NB118_120.out _; (with_reducible repeat (first | refine blk_drewN ?_ _ | refine blk_drew ?_ | refine blk_alloc ?_ _)); refine blk_far ?_ NB118_120.out _; (with_reducible repeat (first | refine blk_drewN ?_ _ | refine blk_drew ?_ | refine blk_alloc ?_ _)); refine blk_far ?_ NB118_120.out _; (with_reducible repeat (first | refine blk_drewN ?_ _ | refine blk_drew ?_ | refine blk_alloc ?_ _)); refine blk_far ?_ NB118_120.out _; (with_reducible repeat (first | refine blk_drewN ?_ _ | refine blk_drew ?_ | refine blk_alloc ?_ _)); refine blk_put (cs := #[.int .u64 (IntKind.u64.wrap ((IntKind.u64.wrap (x119000_1 * 2)) + (x119001_1 / 9223372036854775808))), .int .u64 x119001_1]) ?_ 1 _ rfl; (with_reducible repeat (first | refine blk_drewN ?_ _ | refine blk_drew ?_ | refine blk_alloc ?_ _)); refine blk_put (cs := #[.int .u64 x119000_1, .int .u64 x119001_1]) ?_ 0 _ rfl; (with_reducible repeat (first | refine blk_drewN ?_ _ | refine blk_drew ?_ | refine blk_alloc ?_ _)); exact BK118.out⟩, ⟨by (with_reducible repeat (first | refine blk_drewN ?_ _ | refine blk_drew ?_ | refine blk_alloc ?_ _)); refine blk_far ?_ NB119_120.out _; (with_reducible repeat (first | refine blk_drewN ?_ _ | refine blk_drew ?_ | refine blk_alloc ?_ _)); refine blk_far ?_ NB119_120.out _; (with_reducible repeat (first | refine blk_drewN ?_ _ | refine blk_drew ?_ | refine blk_alloc ?_ _)); refine blk_far ?_ NB119_120.out _; (with_reducible repeat (first | refine blk_drewN ?_ _ | refine blk_drew ?_ | refine blk_alloc ?_ _)); refine blk_far ?_ NB119_120.out _; (with_reducible repeat (first | refine blk_drewN ?_ _ | refine blk_drew ?_ | refine blk_alloc ?_ _)); refine blk_far ?_ NB119_120.out _; (with_reducible repeat (first | refine blk_drewN ?_ _ | refine blk_drew ?_ | refine blk_alloc ?_ _)); refine blk_far ?_ NB119_118.out _; (with_reducible repeat (first | refine blk_drewN ?_ _ | refine blk_drew ?_ | refine blk_alloc ?_ _)); refine blk_far ?_ NB119_118.out _; (with_reducible repeat (first | refine blk_drewN ?_ _ | refine blk_drew ?_ | refine blk_alloc ?_ _)); exact BK119.out⟩, ⟨by (with_reducible repeat (first | refine blk_drewN ?_ _ | refine blk_drew ?_ | refine blk_alloc ?_ _)); refine blk_put (cs := #[.int .u64 (IntKind.u64.wrap (x121000_1 * 2)), .bool true, .int .u64 (IntKind.u64.wrap ((IntKind.u64.wrap ((IntKind.u64.wrap (x121002_1 * 2)) + (x119000_1 / 9223372036854775808))) - a1))]) ?_ 0 _ rfl; (with_reducible repeat (first | refine blk_drewN ?_ _ | refine blk_drew ?_ | refine blk_alloc ?_ _)); refine blk_put (cs := #[.int .u64 (IntKind.u64.wrap (x121000_1 * 2)), .bool true, .int .u64 (IntKind.u64.wrap ((IntKind.u64.wrap (x121002_1 * 2)) + (x119000_1 / 9223372036854775808)))]) ?_ 2 _ rfl; (with_reducible repeat (first | refine blk_drewN ?_ _ | refine blk_drew ?_ | refine blk_alloc ?_ _)); refine blk_put (cs := #[.int .u64 x121000_1, .bool true, .int .u64 (IntKind.u64.wrap ((IntKind.u64.wrap (x121002_1 * 2)) + (x119000_1 / 9223372036854775808)))]) ?_ 0 _ rfl; (with_reducible repeat (first | refine blk_drewN ?_ _ | refine blk_drew ?_ | refine blk_alloc ?_ _)); refine blk_put (cs := #[.int .u64 x121000_1, .bool true, .int .u64 (IntKind.u64.wrap ((IntKind.u64.wrap (x121002_1 * 2)) + (x119000_1 / 9223372036854775808)))]) ?_ 1 _ rfl; (with_reducible repeat (first | refine blk_drewN ?_ _ | refine blk_drew ?_ | refine blk_alloc ?_ _)); refine blk_put (cs := #[.int .u64 x121000_1, .bool true, .int .u64 x121002_1]) ?_ 2 _ rfl; (with_reducible repeat (first | refine blk_drewN ?_ _ | refine blk_drew ?_ | refine blk_alloc ?_ _)); refine blk_far ?_ NB120_118.out _; (with_reducible repeat (first | refine blk_drewN ?_ _ | refine blk_drew ?_ | refine blk_alloc ?_ _)); refine blk_far ?_ NB120_118.out _; (with_reducible repeat (first | refine blk_drewN ?_ _ | refine blk_drew ?_ | refine blk_alloc ?_ _)); exact BK120.out⟩, ⟨by repeat (first | (with_reducible first | exact HB.out | apply below_alloc | apply pw_below_drewN | apply below_drew1 | refine below_set ?_ GE118.out | refine below_set ?_ GE119.out | refine below_set ?_ GE120.out) | exact HB.out)⟩⟩
     ·rw [if_neg c11] at H
      have c11b0 : decide (a1 ≤ (IntKind.u64.wrap ((IntKind.u64.wrap (x121002_1 * 2)) + (x119000_1 / 9223372036854775808)))) = false := decide_eq_false c11
      clear c11
      have H' := Aside0.mk H
      clear H
      have hnb17 := NB118_119.out
      have hnc17 := NB119_118.out
      have hnb18 := NB118_120.out
      have hnc18 := NB120_118.out
      have hcz19_0 : wr.cell? ⟨gb118, 0, none⟩ = some (.int .u64 x119000_1) := (blk_cell BK118.out 0).trans rfl
      have hcz19_1 : wr.cell? ⟨gb118, 1, none⟩ = some (.int .u64 x119001_1) := (blk_cell BK118.out 1).trans rfl
      have hfz19_0 := blk_frozen BK118.out 0
      have hfz19_1 := blk_frozen BK118.out 1
      have hnb20 := NB120_119.out
      have hnc20 := NB119_120.out
      have hcz21_0 : wr.cell? ⟨gb120, 0, none⟩ = some (.int .u64 x121000_1) := (blk_cell BK120.out 0).trans rfl
      have hcz21_1 : wr.cell? ⟨gb120, 1, none⟩ = some (.bool true) := (blk_cell BK120.out 1).trans rfl
      have hcz21_2 : wr.cell? ⟨gb120, 2, none⟩ = some (.int .u64 x121002_1) := (blk_cell BK120.out 2).trans rfl
      have hfz21_0 := blk_frozen BK120.out 0
      have hfz21_1 := blk_frozen BK120.out 1
      have hfz21_2 := blk_frozen BK120.out 2
      go_wp2
      go_roundg k1
      case measure => have := HK1.out; omega
      case rel => exact ⟨(wrap64 (x6_1 - 1)), (IntKind.u64.wrap ((IntKind.u64.wrap (x119000_1 * 2)) + (x119001_1 / 9223372036854775808))), (IntKind.u64.wrap (x119001_1 * 2)), (IntKind.u64.wrap (x121000_1 * 2)), (true), (IntKind.u64.wrap ((IntKind.u64.wrap (x121002_1 * 2)) + (x119000_1 / 9223372036854775808))), (by first | rfl | (simp; done) | (simp [*]; done)), H', ⟨by have := HK1.out; omega⟩, ⟨by (with_reducible repeat (first | refine blk_drewN ?_ _ | refine blk_drew ?_ | refine blk_alloc ?_ _)); refine blk_far ?_ NB118_120.out _; (with_reducible repeat (first | refine blk_drewN ?_ _ | refine blk_drew ?_ | refine blk_alloc ?_ _)); refine blk_far ?_ NB118_120.out _; (with_reducible repeat (first | refine blk_drewN ?_ _ | refine blk_drew ?_ | refine blk_alloc ?_ _)); refine blk_far ?_ NB118_120.out _; (with_reducible repeat (first | refine blk_drewN ?_ _ | refine blk_drew ?_ | refine blk_alloc ?_ _)); refine blk_put (cs := #[.int .u64 (IntKind.u64.wrap ((IntKind.u64.wrap (x119000_1 * 2)) + (x119001_1 / 9223372036854775808))), .int .u64 x119001_1]) ?_ 1 _ rfl; (with_reducible repeat (first | refine blk_drewN ?_ _ | refine blk_drew ?_ | refine blk_alloc ?_ _)); refine blk_put (cs := #[.int .u64 x119000_1, .int .u64 x119001_1]) ?_ 0 _ rfl; (with_reducible repeat (first | refine blk_drewN ?_ _ | refine blk_drew ?_ | refine blk_alloc ?_ _)); exact BK118.out⟩, ⟨by (with_reducible repeat (first | refine blk_drewN ?_ _ | refine blk_drew ?_ | refine blk_alloc ?_ _)); refine blk_far ?_ NB119_120.out _; (with_reducible repeat (first | refine blk_drewN ?_ _ | refine blk_drew ?_ | refine blk_alloc ?_ _)); refine blk_far ?_ NB119_120.out _; (with_reducible repeat (first | refine blk_drewN ?_ _ | refine blk_drew ?_ | refine blk_alloc ?_ _)); refine blk_far ?_ NB119_120.out _; (with_reducible repeat (first | refine blk_drewN ?_ _ | refine blk_drew ?_ | refine blk_alloc ?_ _)); refine blk_far ?_ NB119_118.out _; (with_reducible repeat (first | refine blk_drewN ?_ _ | refine blk_drew ?_ | refine blk_alloc ?_ _)); refine blk_far ?_ NB119_118.out _; (with_reducible repeat (first | refine blk_drewN ?_ _ | refine blk_drew ?_ | refine blk_alloc ?_ _)); exact BK119.out⟩, ⟨by (with_reducible repeat (first | refine blk_drewN ?_ _ | refine blk_drew ?_ | refine blk_alloc ?_ _)); refine blk_put (cs := #[.int .u64 x121000_1, .bool true, .int .u64 (IntKind.u64.wrap ((IntKind.u64.wrap (x121002_1 * 2)) + (x119000_1 / 9223372036854775808)))]) ?_ 0 _ rfl; (with_reducible repeat (first | refine blk_drewN ?_ _ | refine blk_drew ?_ | refine blk_alloc ?_ _)); refine blk_put (cs := #[.int .u64 x121000_1, .bool true, .int .u64 (IntKind.u64.wrap ((IntKind.u64.wrap (x121002_1 * 2)) + (x119000_1 / 9223372036854775808)))]) ?_ 1 _ rfl; (with_reducible repeat (first | refine blk_drewN ?_ _ | refine blk_drew ?_ | refine blk_alloc ?_ _)); refine blk_put (cs := #[.int .u64 x121000_1, .bool true, .int .u64 x121002_1]) ?_ 2 _ rfl; (with_reducible repeat (first | refine blk_drewN ?_ _ | refine blk_drew ?_ | refine blk_alloc ?_ _)); refine blk_far ?_ NB120_118.out _; (with_reducible repeat (first | refine blk_drewN ?_ _ | refine blk_drew ?_ | refine blk_alloc ?_ _)); refine blk_far ?_ NB120_118.out _; (with_reducible repeat (first | refine blk_drewN ?_ _ | refine blk_drew ?_ | refine blk_alloc ?_ _)); exact BK120.out⟩, ⟨by repeat (first | (with_reducible first | exact HB.out | apply below_alloc | apply pw_below_drewN | apply below_drew1 | refine below_set ?_ GE118.out | refine below_set ?_ GE119.out | refine below_set ?_ GE120.out) | exact HB.out)⟩⟩
    ·replace c10 := Bool.eq_false_iff.mpr c10
     subst c10
     have H1 : (if (IntKind.u64.wrap ((IntKind.u64.wrap (x121002_1 * 2)) + (x119000_1 / 9223372036854775808))) ≥ a1 then (flywheelref02_part.l0 k1 a1 (wrap64 (x6_1 - 1)) (IntKind.u64.wrap ((IntKind.u64.wrap (x119000_1 * 2)) + (x119001_1 / 9223372036854775808))) (IntKind.u64.wrap (x119001_1 * 2)) (IntKind.u64.wrap ((IntKind.u64.wrap (x121000_1 * 2)) + 1)) ((x121000_1 / 9223372036854775808) == 1) (IntKind.u64.wrap ((IntKind.u64.wrap ((IntKind.u64.wrap (x121002_1 * 2)) + (x119000_1 / 9223372036854775808))) - a1))) else (flywheelref02_part.l0 k1 a1 (wrap64 (x6_1 - 1)) (IntKind.u64.wrap ((IntKind.u64.wrap (x119000_1 * 2)) + (x119001_1 / 9223372036854775808))) (IntKind.u64.wrap (x119001_1 * 2)) (IntKind.u64.wrap (x121000_1 * 2)) ((x121000_1 / 9223372036854775808) == 1) (IntKind.u64.wrap ((IntKind.u64.wrap (x121002_1 * 2)) + (x119000_1 / 9223372036854775808))))) = some (r1, r2, r3) := by rw [if_neg (show ¬ (false = true) by decide)] at H; exact H
     clear H
     have H := H1
     clear H1
     by_cases c22 : (IntKind.u64.wrap ((IntKind.u64.wrap (x121002_1 * 2)) + (x119000_1 / 9223372036854775808))) ≥ a1
     ·rw [if_pos c22] at H
      have c22b0 : decide (a1 ≤ (IntKind.u64.wrap ((IntKind.u64.wrap (x121002_1 * 2)) + (x119000_1 / 9223372036854775808)))) = true := decide_eq_true c22
      clear c22
      have H' := Aside0.mk H
      clear H
      have hnb23 := NB118_119.out
      have hnc23 := NB119_118.out
      have hnb24 := NB118_120.out
      have hnc24 := NB120_118.out
      have hcz25_0 : wr.cell? ⟨gb118, 0, none⟩ = some (.int .u64 x119000_1) := (blk_cell BK118.out 0).trans rfl
      have hcz25_1 : wr.cell? ⟨gb118, 1, none⟩ = some (.int .u64 x119001_1) := (blk_cell BK118.out 1).trans rfl
      have hfz25_0 := blk_frozen BK118.out 0
      have hfz25_1 := blk_frozen BK118.out 1
      have hnb26 := NB120_119.out
      have hnc26 := NB119_120.out
      have hcz27_0 : wr.cell? ⟨gb120, 0, none⟩ = some (.int .u64 x121000_1) := (blk_cell BK120.out 0).trans rfl
      have hcz27_1 : wr.cell? ⟨gb120, 1, none⟩ = some (.bool false) := (blk_cell BK120.out 1).trans rfl
      have hcz27_2 : wr.cell? ⟨gb120, 2, none⟩ = some (.int .u64 x121002_1) := (blk_cell BK120.out 2).trans rfl
      have hfz27_0 := blk_frozen BK120.out 0
      have hfz27_1 := blk_frozen BK120.out 1
      have hfz27_2 := blk_frozen BK120.out 2
      go_wp2
      go_roundg k1
      case measure => have := HK1.out; omega
      case rel => exact ⟨(wrap64 (x6_1 - 1)), (IntKind.u64.wrap ((IntKind.u64.wrap (x119000_1 * 2)) + (x119001_1 / 9223372036854775808))), (IntKind.u64.wrap (x119001_1 * 2)), (IntKind.u64.wrap ((IntKind.u64.wrap (x121000_1 * 2)) + 1)), (((x121000_1 / 9223372036854775808) == 1)), (IntKind.u64.wrap ((IntKind.u64.wrap ((IntKind.u64.wrap (x121002_1 * 2)) + (x119000_1 / 9223372036854775808))) - a1)), (by first | rfl | (simp; done) | (simp [*]; done)), H', ⟨by have := HK1.out; omega⟩, ⟨by (with_reducible repeat (first | refine blk_drewN ?_ _ | refine blk_drew ?_ | refine blk_alloc ?_ _)); refine blk_far ?_ NB118_120.out _; (with_reducible repeat (first | refine blk_drewN ?_ _ | refine blk_drew ?_ | refine blk_alloc ?_ _)); refine blk_far ?_ NB118_120.out _; (with_reducible repeat (first | refine blk_drewN ?_ _ | refine blk_drew ?_ | refine blk_alloc ?_ _)); refine blk_far ?_ NB118_120.out _; (with_reducible repeat (first | refine blk_drewN ?_ _ | refine blk_drew ?_ | refine blk_alloc ?_ _)); refine blk_far ?_ NB118_120.out _; (with_reducible repeat (first | refine blk_drewN ?_ _ | refine blk_drew ?_ | refine blk_alloc ?_ _)); refine blk_far ?_ NB118_120.out _; (with_reducible repeat (first | refine blk_drewN ?_ _ | refine blk_drew ?_ | refine blk_alloc ?_ _)); refine blk_put (cs := #[.int .u64 (IntKind.u64.wrap ((IntKind.u64.wrap (x119000_1 * 2)) + (x119001_1 / 9223372036854775808))), .int .u64 x119001_1]) ?_ 1 _ rfl; (with_reducible repeat (first | refine blk_drewN ?_ _ | refine blk_drew ?_ | refine blk_alloc ?_ _)); refine blk_put (cs := #[.int .u64 x119000_1, .int .u64 x119001_1]) ?_ 0 _ rfl; (with_reducible repeat (first | refine blk_drewN ?_ _ | refine blk_drew ?_ | refine blk_alloc ?_ _)); exact BK118.out⟩, ⟨by (with_reducible repeat (first | refine blk_drewN ?_ _ | refine blk_drew ?_ | refine blk_alloc ?_ _)); refine blk_far ?_ NB119_120.out _; (with_reducible repeat (first | refine blk_drewN ?_ _ | refine blk_drew ?_ | refine blk_alloc ?_ _)); refine blk_far ?_ NB119_120.out _; (with_reducible repeat (first | refine blk_drewN ?_ _ | refine blk_drew ?_ | refine blk_alloc ?_ _)); refine blk_far ?_ NB119_120.out _; (with_reducible repeat (first | refine blk_drewN ?_ _ | refine blk_drew ?_ | refine blk_alloc ?_ _)); refine blk_far ?_ NB119_120.out _; (with_reducible repeat (first | refine blk_drewN ?_ _ | refine blk_drew ?_ | refine blk_alloc ?_ _)); refine blk_far ?_ NB119_120.out _; (with_reducible repeat (first | refine blk_drewN ?_ _ | refine blk_drew ?_ | refine blk_alloc ?_ _)); refine blk_far ?_ NB119_118.out _; (with_reducible repeat (first | refine blk_drewN ?_ _ | refine blk_drew ?_ | refine blk_alloc ?_ _)); refine blk_far ?_ NB119_118.out _; (with_reducible repeat (first | refine blk_drewN ?_ _ | refine blk_drew ?_ | refine blk_alloc ?_ _)); exact BK119.out⟩, ⟨by (with_reducible repeat (first | refine blk_drewN ?_ _ | refine blk_drew ?_ | refine blk_alloc ?_ _)); refine blk_put (cs := #[.int .u64 (IntKind.u64.wrap (x121000_1 * 2)), .bool ((x121000_1 / 9223372036854775808) == 1), .int .u64 (IntKind.u64.wrap ((IntKind.u64.wrap ((IntKind.u64.wrap (x121002_1 * 2)) + (x119000_1 / 9223372036854775808))) - a1))]) ?_ 0 _ rfl; (with_reducible repeat (first | refine blk_drewN ?_ _ | refine blk_drew ?_ | refine blk_alloc ?_ _)); refine blk_put (cs := #[.int .u64 (IntKind.u64.wrap (x121000_1 * 2)), .bool ((x121000_1 / 9223372036854775808) == 1), .int .u64 (IntKind.u64.wrap ((IntKind.u64.wrap (x121002_1 * 2)) + (x119000_1 / 9223372036854775808)))]) ?_ 2 _ rfl; (with_reducible repeat (first | refine blk_drewN ?_ _ | refine blk_drew ?_ | refine blk_alloc ?_ _)); refine blk_put (cs := #[.int .u64 x121000_1, .bool ((x121000_1 / 9223372036854775808) == 1), .int .u64 (IntKind.u64.wrap ((IntKind.u64.wrap (x121002_1 * 2)) + (x119000_1 / 9223372036854775808)))]) ?_ 0 _ rfl; (with_reducible repeat (first | refine blk_drewN ?_ _ | refine blk_drew ?_ | refine blk_alloc ?_ _)); refine blk_put (cs := #[.int .u64 x121000_1, .bool false, .int .u64 (IntKind.u64.wrap ((IntKind.u64.wrap (x121002_1 * 2)) + (x119000_1 / 9223372036854775808)))]) ?_ 1 _ rfl; (with_reducible repeat (first | refine blk_drewN ?_ _ | refine blk_drew ?_ | refine blk_alloc ?_ _)); refine blk_put (cs := #[.int .u64 x121000_1, .bool false, .int .u64 x121002_1]) ?_ 2 _ rfl; (with_reducible repeat (first | refine blk_drewN ?_ _ | refine blk_drew ?_ | refine blk_alloc ?_ _)); refine blk_far ?_ NB120_118.out _; (with_reducible repeat (first | refine blk_drewN ?_ _ | refine blk_drew ?_ | refine blk_alloc ?_ _)); refine blk_far ?_ NB120_118.out _; (with_reducible repeat (first | refine blk_drewN ?_ _ | refine blk_drew ?_ | refine blk_alloc ?_ _)); exact BK120.out⟩, ⟨by repeat (first | (with_reducible first | exact HB.out | apply below_alloc | apply pw_below_drewN | apply below_drew1 | refine below_set ?_ GE118.out | refine below_set ?_ GE119.out | refine below_set ?_ GE120.out) | exact HB.out)⟩⟩
     ·rw [if_neg c22] at H
      have c22b0 : decide (a1 ≤ (IntKind.u64.wrap ((IntKind.u64.wrap (x121002_1 * 2)) + (x119000_1 / 9223372036854775808)))) = false := decide_eq_false c22
      clear c22
      have H' := Aside0.mk H
      clear H
      have hnb28 := NB118_119.out
      have hnc28 := NB119_118.out
      have hnb29 := NB118_120.out
      have hnc29 := NB120_118.out
      have hcz30_0 : wr.cell? ⟨gb118, 0, none⟩ = some (.int .u64 x119000_1) := (blk_cell BK118.out 0).trans rfl
      have hcz30_1 : wr.cell? ⟨gb118, 1, none⟩ = some (.int .u64 x119001_1) := (blk_cell BK118.out 1).trans rfl
      have hfz30_0 := blk_frozen BK118.out 0
      have hfz30_1 := blk_frozen BK118.out 1
      have hnb31 := NB120_119.out
      have hnc31 := NB119_120.out
      have hcz32_0 : wr.cell? ⟨gb120, 0, none⟩ = some (.int .u64 x121000_1) := (blk_cell BK120.out 0).trans rfl
      have hcz32_1 : wr.cell? ⟨gb120, 1, none⟩ = some (.bool false) := (blk_cell BK120.out 1).trans rfl
      have hcz32_2 : wr.cell? ⟨gb120, 2, none⟩ = some (.int .u64 x121002_1) := (blk_cell BK120.out 2).trans rfl
      have hfz32_0 := blk_frozen BK120.out 0
      have hfz32_1 := blk_frozen BK120.out 1
      have hfz32_2 := blk_frozen BK120.out 2
      go_wp2
      go_roundg k1
      case measure => have := HK1.out; omega
      case rel => exact ⟨(wrap64 (x6_1 - 1)), (IntKind.u64.wrap ((IntKind.u64.wrap (x119000_1 * 2)) + (x119001_1 / 9223372036854775808))), (IntKind.u64.wrap (x119001_1 * 2)), (IntKind.u64.wrap (x121000_1 * 2)), (((x121000_1 / 9223372036854775808) == 1)), (IntKind.u64.wrap ((IntKind.u64.wrap (x121002_1 * 2)) + (x119000_1 / 9223372036854775808))), (by first | rfl | (simp; done) | (simp [*]; done)), H', ⟨by have := HK1.out; omega⟩, ⟨by (with_reducible repeat (first | refine blk_drewN ?_ _ | refine blk_drew ?_ | refine blk_alloc ?_ _)); refine blk_far ?_ NB118_120.out _; (with_reducible repeat (first | refine blk_drewN ?_ _ | refine blk_drew ?_ | refine blk_alloc ?_ _)); refine blk_far ?_ NB118_120.out _; (with_reducible repeat (first | refine blk_drewN ?_ _ | refine blk_drew ?_ | refine blk_alloc ?_ _)); refine blk_far ?_ NB118_120.out _; (with_reducible repeat (first | refine blk_drewN ?_ _ | refine blk_drew ?_ | refine blk_alloc ?_ _)); refine blk_put (cs := #[.int .u64 (IntKind.u64.wrap ((IntKind.u64.wrap (x119000_1 * 2)) + (x119001_1 / 9223372036854775808))), .int .u64 x119001_1]) ?_ 1 _ rfl; (with_reducible repeat (first | refine blk_drewN ?_ _ | refine blk_drew ?_ | refine blk_alloc ?_ _)); refine blk_put (cs := #[.int .u64 x119000_1, .int .u64 x119001_1]) ?_ 0 _ rfl; (with_reducible repeat (first | refine blk_drewN ?_ _ | refine blk_drew ?_ | refine blk_alloc ?_ _)); exact BK118.out⟩, ⟨by (with_reducible repeat (first | refine blk_drewN ?_ _ | refine blk_drew ?_ | refine blk_alloc ?_ _)); refine blk_far ?_ NB119_120.out _; (with_reducible repeat (first | refine blk_drewN ?_ _ | refine blk_drew ?_ | refine blk_alloc ?_ _)); refine blk_far ?_ NB119_120.out _; (with_reducible repeat (first | refine blk_drewN ?_ _ | refine blk_drew ?_ | refine blk_alloc ?_ _)); refine blk_far ?_ NB119_120.out _; (with_reducible repeat (first | refine blk_drewN ?_ _ | refine blk_drew ?_ | refine blk_alloc ?_ _)); refine blk_far ?_ NB119_118.out _; (with_reducible repeat (first | refine blk_drewN ?_ _ | refine blk_drew ?_ | refine blk_alloc ?_ _)); refine blk_far ?_ NB119_118.out _; (with_reducible repeat (first | refine blk_drewN ?_ _ | refine blk_drew ?_ | refine blk_alloc ?_ _)); exact BK119.out⟩, ⟨by (with_reducible repeat (first | refine blk_drewN ?_ _ | refine blk_drew ?_ | refine blk_alloc ?_ _)); refine blk_put (cs := #[.int .u64 x121000_1, .bool ((x121000_1 / 9223372036854775808) == 1), .int .u64 (IntKind.u64.wrap ((IntKind.u64.wrap (x121002_1 * 2)) + (x119000_1 / 9223372036854775808)))]) ?_ 0 _ rfl; (with_reducible repeat (first | refine blk_drewN ?_ _ | refine blk_drew ?_ | refine blk_alloc ?_ _)); refine blk_put (cs := #[.int .u64 x121000_1, .bool false, .int .u64 (IntKind.u64.wrap ((IntKind.u64.wrap (x121002_1 * 2)) + (x119000_1 / 9223372036854775808)))]) ?_ 1 _ rfl; (with_reducible repeat (first | refine blk_drewN ?_ _ | refine blk_drew ?_ | refine blk_alloc ?_ _)); refine blk_put (cs := #[.int .u64 x121000_1, .bool false, .int .u64 x121002_1]) ?_ 2 _ rfl; (with_reducible repeat (first | refine blk_drewN ?_ _ | refine blk_drew ?_ | refine blk_alloc ?_ _)); refine blk_far ?_ NB120_118.out _; (with_reducible repeat (first | refine blk_drewN ?_ _ | refine blk_drew ?_ | refine blk_alloc ?_ _)); refine blk_far ?_ NB120_118.out _; (with_reducible repeat (first | refine blk_drewN ?_ _ | refine blk_drew ?_ | refine blk_alloc ?_ _)); exact BK120.out⟩, ⟨by repeat (first | (with_reducible first | exact HB.out | apply below_alloc | apply pw_below_drewN | apply below_drew1 | refine below_set ?_ GE118.out | refine below_set ?_ GE119.out | refine below_set ?_ GE120.out) | exact HB.out)⟩⟩
   ·rw [if_neg c9] at H
    have c9b0 : decide (0 ≤ x6_1) = false := decide_eq_false c9
    clear c9
    simp only [Option.some.injEq, Prod.mk.injEq] at H
    obtain ⟨rfl, rfl, rfl⟩ := H
    have hnb33 := NB120_118.out
    have hnc33 := NB118_120.out
    have hnb34 := NB120_119.out
    have hnc34 := NB119_120.out
    have hcz35_0 : wr.cell? ⟨gb120, 0, none⟩ = some (.int .u64 x121000_1) := (blk_cell BK120.out 0).trans rfl
    have hcz35_1 : wr.cell? ⟨gb120, 1, none⟩ = some (.bool x121001_1) := (blk_cell BK120.out 1).trans rfl
    have hcz35_2 : wr.cell? ⟨gb120, 2, none⟩ = some (.int .u64 x121002_1) := (blk_cell BK120.out 2).trans rfl
    have hfz35_0 := blk_frozen BK120.out 0
    have hfz35_1 := blk_frozen BK120.out 1
    have hfz35_2 := blk_frozen BK120.out 2
    have hnb36 := NB119_118.out
    have hnc36 := NB118_119.out
    have hcz37_0 : wr.cell? ⟨gb119, 0, none⟩ = some (.int .u64 0) := (blk_cell BK119.out 0).trans rfl
    have hcz37_1 : wr.cell? ⟨gb119, 1, none⟩ = some (.bool false) := (blk_cell BK119.out 1).trans rfl
    have hcz37_2 : wr.cell? ⟨gb119, 2, none⟩ = some (.int .u64 0) := (blk_cell BK119.out 2).trans rfl
    have hfz37_0 := blk_frozen BK119.out 0
    have hfz37_1 := blk_frozen BK119.out 1
    have hfz37_2 := blk_frozen BK119.out 2
    go_wp2
    refine bodyPost_ret (results_cell_row rfl _ _ gb119 69 #[.int .u64 x121000_1, .bool x121001_1, .int .u64 x121002_1] (0, 0) _ rfl (by (with_reducible repeat (first | refine blk_drewN ?_ _ | refine blk_drew ?_ | refine blk_alloc ?_ _)); refine blk_put (cs := #[.int .u64 x121000_1, .bool x121001_1, .int .u64 0]) ?_ 2 _ rfl; (with_reducible repeat (first | refine blk_drewN ?_ _ | refine blk_drew ?_ | refine blk_alloc ?_ _)); refine blk_put (cs := #[.int .u64 x121000_1, .bool false, .int .u64 0]) ?_ 1 _ rfl; (with_reducible repeat (first | refine blk_drewN ?_ _ | refine blk_drew ?_ | refine blk_alloc ?_ _)); refine blk_put (cs := #[.int .u64 0, .bool false, .int .u64 0]) ?_ 0 _ rfl; (with_reducible repeat (first | refine blk_drewN ?_ _ | refine blk_drew ?_ | refine blk_alloc ?_ _)); exact BK119.out) Try.underlying69 rfl (by kernel_rfl)) rfl ?_
    exact ⟨by first | rfl | (simp [errW_none, errW_some] <;> rfl) | (simp [*, errW_none, errW_some] <;> rfl), by repeat (first | (with_reducible first | exact HB.out | apply below_alloc | apply pw_below_drewN | apply below_drew1 | refine below_set ?_ GE118.out | refine below_set ?_ GE119.out | refine below_set ?_ GE120.out) | exact HB.out)⟩
def flywheelref02_times.f (a0 : Int) (a1 : Int) : Option (Int × Int) := some (IntKind.u64.wrap ((IntKind.u64.wrap ((IntKind.u64.wrap ((a0 / 4294967296) * (a1 / 4294967296))) + ((IntKind.u64.wrap ((IntKind.u64.wrap ((a0 / 4294967296) * (Go.bits .and .u64 a1 4294967295))) + ((IntKind.u64.wrap ((Go.bits .and .u64 a0 4294967295) * (Go.bits .and .u64 a1 4294967295))) / 4294967296))) / 4294967296))) + ((IntKind.u64.wrap ((IntKind.u64.wrap ((Go.bits .and .u64 a0 4294967295) * (a1 / 4294967296))) + (Go.bits .and .u64 (IntKind.u64.wrap ((IntKind.u64.wrap ((a0 / 4294967296) * (Go.bits .and .u64 a1 4294967295))) + ((IntKind.u64.wrap ((Go.bits .and .u64 a0 4294967295) * (Go.bits .and .u64 a1 4294967295))) / 4294967296))) 4294967295))) / 4294967296)), IntKind.u64.wrap ((IntKind.u64.wrap ((IntKind.u64.wrap ((IntKind.u64.wrap ((Go.bits .and .u64 a0 4294967295) * (a1 / 4294967296))) + (Go.bits .and .u64 (IntKind.u64.wrap ((IntKind.u64.wrap ((a0 / 4294967296) * (Go.bits .and .u64 a1 4294967295))) + ((IntKind.u64.wrap ((Go.bits .and .u64 a0 4294967295) * (Go.bits .and .u64 a1 4294967295))) / 4294967296))) 4294967295))) * 4294967296)) + (Go.bits .and .u64 (IntKind.u64.wrap ((Go.bits .and .u64 a0 4294967295) * (Go.bits .and .u64 a1 4294967295))) 4294967295)))
set_option maxHeartbeats 8000000 in
set_option maxRecDepth 100000 in
theorem flywheelref02_times.calls (a0 : Int) (a1 : Int) (r1 : Int) (r2 : Int) (w : World) (h : flywheelref02_times.f a0 a1 = some (r1, r2)) :
  Calls Try.prog 34 #[.int .u64 a0, .int .u64 a1] w fun e w' => e = .returned (.agg #[.int .u64 r1, .int .u64 r2]) ∧ Below w.heap.size w w' := by
 have hu72 := Try.underlying72
 have HB := Aside0.mk (Below.refl w.heap.size w)
 have H : (some (IntKind.u64.wrap ((IntKind.u64.wrap ((IntKind.u64.wrap ((a0 / 4294967296) * (a1 / 4294967296))) + ((IntKind.u64.wrap ((IntKind.u64.wrap ((a0 / 4294967296) * (Go.bits .and .u64 a1 4294967295))) + ((IntKind.u64.wrap ((Go.bits .and .u64 a0 4294967295) * (Go.bits .and .u64 a1 4294967295))) / 4294967296))) / 4294967296))) + ((IntKind.u64.wrap ((IntKind.u64.wrap ((Go.bits .and .u64 a0 4294967295) * (a1 / 4294967296))) + (Go.bits .and .u64 (IntKind.u64.wrap ((IntKind.u64.wrap ((a0 / 4294967296) * (Go.bits .and .u64 a1 4294967295))) + ((IntKind.u64.wrap ((Go.bits .and .u64 a0 4294967295) * (Go.bits .and .u64 a1 4294967295))) / 4294967296))) 4294967295))) / 4294967296)), IntKind.u64.wrap ((IntKind.u64.wrap ((IntKind.u64.wrap ((IntKind.u64.wrap ((Go.bits .and .u64 a0 4294967295) * (a1 / 4294967296))) + (Go.bits .and .u64 (IntKind.u64.wrap ((IntKind.u64.wrap ((a0 / 4294967296) * (Go.bits .and .u64 a1 4294967295))) + ((IntKind.u64.wrap ((Go.bits .and .u64 a0 4294967295) * (Go.bits .and .u64 a1 4294967295))) / 4294967296))) 4294967295))) * 4294967296)) + (Go.bits .and .u64 (IntKind.u64.wrap ((Go.bits .and .u64 a0 4294967295) * (Go.bits .and .u64 a1 4294967295))) 4294967295)))) = some (r1, r2) := h
 clear h
 simp only [Option.some.injEq, Prod.mk.injEq] at H
 obtain ⟨rfl, rfl⟩ := H
 go_enter Try.func34, Try.ntmps34
 go_wp2_with (first | ((with_reducible refine gate_dst (N := 4) rfl ?_); refine box_event ?hg (N := 4) ?hd (cs := #[.int .u64 0, .int .u64 0]) (t := 72) ?hr ?_; (case hd => rfl); (case hg => rfl); (case hr => first | (go_simp; done) | (go_simp; rfl)); intro gb121 hg w3 hbox hb; have n0_ := Aside0.mk (below_step (by repeat (first | (with_reducible first | exact HB.out | apply below_alloc | apply pw_below_drewN | apply below_drew1) | exact HB.out)) hb); have n1_ := Aside0.mk (hbox); have n2_ := Aside0.mk ((by rw [hg]; exact (below_size (by repeat (first | (with_reducible first | exact HB.out | apply below_alloc | apply pw_below_drewN | apply below_drew1) | exact HB.out))) : w.heap.size ≤ gb121)); have n3_ := Aside0.mk ((by rw [hg]; exact (below_size (by repeat (first | (with_reducible first | exact HB.out | apply below_alloc | apply pw_below_drewN | apply below_drew1) | exact HB.out))) : w.heap.size ≤ gb121)); clear HB; have HB := n0_; have BK121 := n1_; have GW121 := n2_; have GE121 := n3_; clear n0_ n1_ n2_ n3_; clear hb hbox hg; have hcz4_0 : w3.cell? ⟨gb121, 0, none⟩ = some (.int .u64 0) := (blk_cell BK121.out 0).trans rfl; have hcz4_1 : w3.cell? ⟨gb121, 1, none⟩ = some (.int .u64 0) := (blk_cell BK121.out 1).trans rfl; have hfz4_0 := blk_frozen BK121.out 0; have hfz4_1 := blk_frozen BK121.out 1))
 refine bodyPost_ret (results_cell_row rfl _ _ gb121 72 #[.int .u64 (IntKind.u64.wrap ((IntKind.u64.wrap ((IntKind.u64.wrap ((a0 / 4294967296) * (a1 / 4294967296))) + ((IntKind.u64.wrap ((IntKind.u64.wrap ((a0 / 4294967296) * (Go.bits .and .u64 a1 4294967295))) + ((IntKind.u64.wrap ((Go.bits .and .u64 a0 4294967295) * (Go.bits .and .u64 a1 4294967295))) / 4294967296))) / 4294967296))) + ((IntKind.u64.wrap ((IntKind.u64.wrap ((Go.bits .and .u64 a0 4294967295) * (a1 / 4294967296))) + (Go.bits .and .u64 (IntKind.u64.wrap ((IntKind.u64.wrap ((a0 / 4294967296) * (Go.bits .and .u64 a1 4294967295))) + ((IntKind.u64.wrap ((Go.bits .and .u64 a0 4294967295) * (Go.bits .and .u64 a1 4294967295))) / 4294967296))) 4294967295))) / 4294967296))), .int .u64 (IntKind.u64.wrap ((IntKind.u64.wrap ((IntKind.u64.wrap ((IntKind.u64.wrap ((Go.bits .and .u64 a0 4294967295) * (a1 / 4294967296))) + (Go.bits .and .u64 (IntKind.u64.wrap ((IntKind.u64.wrap ((a0 / 4294967296) * (Go.bits .and .u64 a1 4294967295))) + ((IntKind.u64.wrap ((Go.bits .and .u64 a0 4294967295) * (Go.bits .and .u64 a1 4294967295))) / 4294967296))) 4294967295))) * 4294967296)) + (Go.bits .and .u64 (IntKind.u64.wrap ((Go.bits .and .u64 a0 4294967295) * (Go.bits .and .u64 a1 4294967295))) 4294967295)))] (0, 0) _ rfl (by (with_reducible repeat (first | refine blk_drewN ?_ _ | refine blk_drew ?_ | refine blk_alloc ?_ _)); refine blk_put (cs := #[.int .u64 (IntKind.u64.wrap ((IntKind.u64.wrap ((IntKind.u64.wrap ((a0 / 4294967296) * (a1 / 4294967296))) + ((IntKind.u64.wrap ((IntKind.u64.wrap ((a0 / 4294967296) * (Go.bits .and .u64 a1 4294967295))) + ((IntKind.u64.wrap ((Go.bits .and .u64 a0 4294967295) * (Go.bits .and .u64 a1 4294967295))) / 4294967296))) / 4294967296))) + ((IntKind.u64.wrap ((IntKind.u64.wrap ((Go.bits .and .u64 a0 4294967295) * (a1 / 4294967296))) + (Go.bits .and .u64 (IntKind.u64.wrap ((IntKind.u64.wrap ((a0 / 4294967296) * (Go.bits .and .u64 a1 4294967295))) + ((IntKind.u64.wrap ((Go.bits .and .u64 a0 4294967295) * (Go.bits .and .u64 a1 4294967295))) / 4294967296))) 4294967295))) / 4294967296))), .int .u64 0]) ?_ 1 _ rfl; (with_reducible repeat (first | refine blk_drewN ?_ _ | refine blk_drew ?_ | refine blk_alloc ?_ _)); refine blk_put (cs := #[.int .u64 0, .int .u64 0]) ?_ 0 _ rfl; (with_reducible repeat (first | refine blk_drewN ?_ _ | refine blk_drew ?_ | refine blk_alloc ?_ _)); exact BK121.out) Try.underlying72 rfl (by kernel_rfl)) rfl ?_
 exact ⟨by first | rfl | (simp [errW_none, errW_some] <;> rfl) | (simp [*, errW_none, errW_some] <;> rfl), by repeat (first | (with_reducible first | exact HB.out | apply below_alloc | apply pw_below_drewN | apply below_drew1 | refine below_set ?_ GE121.out) | exact HB.out)⟩
def flywheelref02_size.f (a0 : Int) : Option (Int) := if a0 < 0 then (some (IntKind.u64.wrap ((IntKind.u64.wrap (wrap64 (-(wrap64 (a0 + 1))))) + 1))) else (some (IntKind.u64.wrap (a0)))
set_option maxHeartbeats 8000000 in
set_option maxRecDepth 100000 in
theorem flywheelref02_size.calls (a0 : Int) (r : Int) (w : World) (h : flywheelref02_size.f a0 = some r) :
  Calls Try.prog 35 #[.int .i64 a0] w fun e w' => e = .returned (.int .u64 r) ∧ Drawn0 w w' := by
 have H : (if a0 < 0 then (some (IntKind.u64.wrap ((IntKind.u64.wrap (wrap64 (-(wrap64 (a0 + 1))))) + 1))) else (some (IntKind.u64.wrap (a0)))) = some r := h
 clear h
 by_cases c2 : a0 < 0
 ·rw [if_pos c2] at H
  have c2b0 : decide (a0 < 0) = true := decide_eq_true c2
  clear c2
  obtain rfl := Option.some.inj H
  go_enter Try.func35, Try.ntmps35
  go_wp2
  go_ret
  exact ⟨by first | rfl | (simp; done) | (simp [*]; done), by repeat (first | exact Drawn0.refl _ | apply Drawn0.step)⟩
 ·rw [if_neg c2] at H
  have c2b0 : decide (a0 < 0) = false := decide_eq_false c2
  clear c2
  obtain rfl := Option.some.inj H
  go_enter Try.func35, Try.ntmps35
  go_wp2
  go_ret
  exact ⟨by first | rfl | (simp; done) | (simp [*]; done), by repeat (first | exact Drawn0.refl _ | apply Drawn0.step)⟩
end Go.Proofs.Ytdddpmmpfemibaa.P
end

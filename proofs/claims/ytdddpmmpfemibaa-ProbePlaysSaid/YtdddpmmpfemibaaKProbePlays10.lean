-- PUT TOGETHER by a program of this session: of the claim's texts, what is used
import Derived.Test.YtdddpmmpfemibaaKProbePlays7
import Derived.Test.YtdddpmmpfemibaaKProbePlays8
import Derived.Test.YtdddpmmpfemibaaKProbePlays9
section
namespace Go.Proofs.Ytdddpmmpfemibaa.P
open Go.RowKit Go.Proofs.YtdddpmmpfemibaaW.PrintWords Go.Proofs.YtdddpmmpfemibaaW.PrintLast Go.Proofs.YtdddpmmpfemibaaW.PrintMore
attribute [local go_sem] max2_int min2_int max_two min_two max_three min_three max_four min_four   -- for this text's walks alone
set_option linter.unusedVariables false
set_option linter.unusedSimpArgs false
structure RA where
 all : Int
 lst : Int × Int × Int
 fst : Int × Int × Int
 la : Int
 lc : Int
 ma : Int
 mc : Int
def RA.start (x : Int × Int × Int) : RA := ⟨0, x, x, x.2.1, x.2.2, x.2.1, x.2.2⟩
def RA.step (a : RA) (x : Int × Int × Int) : RA :=
 ⟨wrap64 (a.all + x.1), if a.lst.2.1 ≤ x.2.1 then x else a.lst, if x.2.2 < a.fst.2.2 then x else a.fst, mn a.la x.2.1, mn a.lc x.2.2, mx a.ma x.2.1, mx a.mc x.2.2⟩
def RA.of : List (Int × Int × Int) → Option RA
 | [] => none
 | x :: r => some ((x :: r).foldl RA.step (RA.start x))
def flywheelref26_cluster_result.f (by_ : Int) (xs : List (Int × Int × Int)) : Option Int := (RA.of xs).bind fun a => if (xs.length : Int) < 4 then some 0 else (if a.all < wrap64 (Int.tdiv by_ 2) then some 0 else ((flywheelref26_over.f (wrap64 (a.all - a.fst.1)) (wrap64 (a.mc - a.lc))).bind fun came => (flywheelref26_over.f (wrap64 (a.all - a.lst.1)) (wrap64 (a.ma - a.la))).bind fun sent => some (mn sent came)))
theorem fold_next {xs : List (Int × Int × Int)} {i : Int} {x : Int × Int × Int} {a aF : RA} (h0 : 0 ≤ i) (hx : xs[i.toNat]? = some x) (h : (xs.drop i.toNat).foldl RA.step a = aF) : (xs.drop (i + 1).toNat).foldl RA.step (RA.step a x) = aF := by
 obtain ⟨hlt, e⟩ := List.getElem?_eq_some_iff.1 hx
 rw [List.drop_eq_getElem_cons hlt, e, List.foldl_cons] at h
 rw [show (i + 1).toNat = i.toNat + 1 by omega]
 exact h
theorem namedR_ {P : Program} {Q : Exit → Act → World → Prop} {a : Act} {W : World} {c : Code} (h : ∀ W_, W_ = W → c.wp P Q a W_) : c.wp P Q a W := h W rfl
def flywheelref26_cluster_result.T14 : Bool × List (List Nat × List Nat) := (true, [([], []), ([0], [0]), ([], []), ([2], [2]), ([1, 3], [1, 3]), ([], []), ([5], [5]), ([], []), ([7], [7]), ([6, 8], [6, 8]), ([0, 1, 2, 3, 4, 5, 6], []), ([10, 4, 0, 1, 2, 3, 4, 5, 6], [4, 10]), ([0, 1, 2, 3, 4, 5, 6, 7, 8, 9, 10, 11], []), ([12, 9, 11, 0, 1, 2, 3, 4, 5, 6, 7, 8, 9, 10, 11], [9, 12])])
def flywheelref26_cluster_result.B14 : List Nat := [0, 1, 0, 4, 15, 0, 32, 0, 128, 480, 127, 1151, 4095, 8191]
theorem flywheelref26_cluster_result.tab14 : rtab .any (opsOf Try.f23 14) = flywheelref26_cluster_result.T14 := by kernel_rfl
theorem flywheelref26_cluster_result.bits14 : waitsOk flywheelref26_cluster_result.T14.2 flywheelref26_cluster_result.B14 = true := by kernel_rfl
def flywheelref26_cluster_result.T15 : Bool × List (List Nat × List Nat) := (true, [([], []), ([0], [0]), ([], []), ([2], [2]), ([1, 3], [1, 3]), ([], []), ([5], [5]), ([], []), ([7], [7]), ([6, 8], [6, 8]), ([0, 1, 2, 3, 4, 5, 6], []), ([10, 4, 0, 1, 2, 3, 4, 5, 6], [4, 10]), ([0, 1, 2, 3, 4, 5, 6, 7, 8, 9, 10, 11], []), ([12, 9, 11, 0, 1, 2, 3, 4, 5, 6, 7, 8, 9, 10, 11], [9, 12])])
def flywheelref26_cluster_result.B15 : List Nat := [0, 1, 0, 4, 15, 0, 32, 0, 128, 480, 127, 1151, 4095, 8191]
theorem flywheelref26_cluster_result.tab15 : rtab .any (opsOf Try.f23 15) = flywheelref26_cluster_result.T15 := by kernel_rfl
theorem flywheelref26_cluster_result.bits15 : waitsOk flywheelref26_cluster_result.T15.2 flywheelref26_cluster_result.B15 = true := by kernel_rfl
def flywheelref26_cluster_result.T18 : Bool × List (List Nat × List Nat) := (true, [([], []), ([], []), ([1], [1]), ([2], [2]), ([3], [3]), ([], []), ([4, 5], [4, 5]), ([6], [6]), ([7], [7]), ([0, 8], [0, 8]), ([], []), ([10], [10]), ([], []), ([12], [12]), ([11, 13], [11, 13]), ([9, 14], [9, 14]), ([15, 15, 0, 1, 2, 3, 4, 5, 6, 7, 8, 9, 10, 11, 12, 13, 14, 15], [15])])
def flywheelref26_cluster_result.B18 : List Nat := [0, 0, 2, 6, 14, 0, 62, 126, 254, 511, 0, 1024, 0, 4096, 15360, 32767, 65535]
theorem flywheelref26_cluster_result.tab18 : rtab .any (opsOf Try.f23 18) = flywheelref26_cluster_result.T18 := by kernel_rfl
theorem flywheelref26_cluster_result.bits18 : waitsOk flywheelref26_cluster_result.T18.2 flywheelref26_cluster_result.B18 = true := by kernel_rfl
def flywheelref26_cluster_result.T19 : Bool × List (List Nat × List Nat) := (true, [([], []), ([], []), ([1], [1]), ([2], [2]), ([3], [3]), ([], []), ([4, 5], [4, 5]), ([6], [6]), ([7], [7]), ([0, 8], [0, 8]), ([], []), ([10], [10]), ([], []), ([12], [12]), ([11, 13], [11, 13]), ([9, 14], [9, 14]), ([15, 15, 0, 1, 2, 3, 4, 5, 6, 7, 8, 9, 10, 11, 12, 13, 14, 15], [15])])
def flywheelref26_cluster_result.B19 : List Nat := [0, 0, 2, 6, 14, 0, 62, 126, 254, 511, 0, 1024, 0, 4096, 15360, 32767, 65535]
theorem flywheelref26_cluster_result.tab19 : rtab .any (opsOf Try.f23 19) = flywheelref26_cluster_result.T19 := by kernel_rfl
theorem flywheelref26_cluster_result.bits19 : waitsOk flywheelref26_cluster_result.T19.2 flywheelref26_cluster_result.B19 = true := by kernel_rfl
set_option maxHeartbeats 16000000 in
set_option maxRecDepth 100000 in
theorem flywheelref26_cluster_result.calls (b o : Nat) (by_ : Int) (A : Option Addr) (n c : Nat) (xs : List (Int × Int × Int)) (r : Int) (w : World) (h1 : w.cell? ⟨b, o + 1, none⟩ = some (.int .i64 by_)) (h3 : w.cell? ⟨b, o + 3, none⟩ = some (.slice A n c)) (hC : Kd.C kS w A n xs) (hn : n = xs.length) (hl : xs.length < 1000000) (h : flywheelref26_cluster_result.f by_ xs = some r) :
  Calls Try.prog 23 #[.pointer (some ⟨b, o, none⟩)] w fun e w' => e = .returned (.int .i64 r) ∧ Below w.heap.size w w' := by
 unfold flywheelref26_cluster_result.f at h
 cases xs with
 | nil => cases h
 | cons x0 rs =>
  obtain ⟨xs, hxs⟩ : ∃ xs, xs = x0 :: rs := ⟨_, rfl⟩
  have h0 : xs[0]? = some x0 := by rw [hxs]; rfl
  replace h := Option.bind_eq_some_iff.mp h
  obtain ⟨aF, haF, h⟩ := h
  have haF2 : xs.foldl RA.step (RA.start x0) = aF := by rw [hxs]; exact Option.some.inj haF
  rw [← hxs] at h hC hn hl
  clear haF hxs
  have p0 : (0 : Int) < (n : Int) := by
   obtain ⟨hh, _⟩ := List.getElem?_eq_some_iff.1 h0
   omega
  obtain ⟨ad, e1, hx0, hx1, hx2⟩ := at_kS hC 0 (by omega) p0 (x := x0) h0
  subst e1
  replace hx0 : w.cell? ad = some (.int .i64 x0.1) := hx0
  replace hx1 : w.cell? ⟨ad.block, ad.off + 1, none⟩ = some (.int .i64 x0.2.1) := hx1
  replace hx2 : w.cell? ⟨ad.block, ad.off + 2, none⟩ = some (.int .i64 x0.2.2) := hx2
  have X0 := Aside0.mk (And.intro hx0 (And.intro hx1 hx2))
  have G1 := Aside0.mk h1
  have G3 := Aside0.mk h3
  have HC := Aside0.mk hC
  have HN := Aside0.mk hn
  have HL := Aside0.mk hl
  have H := Aside0.mk h
  have HF := Aside0.mk haF2
  have H0 := Aside0.mk h0
  have HB := Aside0.mk (Below.refl w.heap.size w)
  have P0 := Aside0.mk p0
  clear hC hn hl h haF2 h0 h1
  have p0n := eq_true (show 0 < n by omega)
  replace p0 := eq_true p0
  go_enter Try.func23, Try.ntmps23
  go_upto_region 4 with (first | ((with_reducible refine gate_dst (N := 6) rfl ?_); refine box_event ?hg (N := 6) ?hd (cs := #[.int .i64 0, .int .i64 0, .int .i64 0]) (t := 57) ?hr ?_; (case hd => rfl); (case hg => rfl); (case hr => first | (go_simp; done) | (go_simp; rfl)); intro bl hg_ w2 hbox hb; have Gbl := Aside0.mk (show w.heap.size ≤ bl from by rw [hg_]; exact HB.out.size); have n_HB := Aside0.mk (below_step HB.out hb); have Bbl := Aside0.mk hbox; skip; clear HB hb hbox hg_ ; have HB := n_HB; skip; clear n_HB ; have hbc_0 : w2.cell? ⟨bl, 0, none⟩ = some (.int .i64 0) := (blk_cell Bbl.out 0).trans rfl; have hbf_0 := blk_frozen Bbl.out 0; have hbc_1 : w2.cell? ⟨bl, 1, none⟩ = some (.int .i64 0) := (blk_cell Bbl.out 1).trans rfl; have hbf_1 := blk_frozen Bbl.out 1; have hbc_2 : w2.cell? ⟨bl, 2, none⟩ = some (.int .i64 0) := (blk_cell Bbl.out 2).trans rfl; have hbf_2 := blk_frozen Bbl.out 2))
  clear hbc_0 hbf_0 hbc_1 hbf_1 hbc_2 hbf_2
  have n_HB := Aside0.mk (show Below w.heap.size w (((w2.setCell ⟨bl, 0, none⟩ (.int .i64 x0.1)).setCell ⟨bl, 1, none⟩ (.int .i64 x0.2.1)).setCell ⟨bl, 2, none⟩ (.int .i64 x0.2.2)) from below_set (below_set (below_set HB.out Gbl.out) Gbl.out) Gbl.out)
  have n_B := Aside0.mk (blk_put (cs' := #[.int .i64 x0.1, .int .i64 x0.2.1, .int .i64 x0.2.2]) (blk_put (cs' := #[.int .i64 x0.1, .int .i64 x0.2.1, .int .i64 0]) (blk_put (cs' := #[.int .i64 x0.1, .int .i64 0, .int .i64 0]) (Bbl.out) 0 (.int .i64 x0.1) rfl) 1 (.int .i64 x0.2.1) rfl) 2 (.int .i64 x0.2.2) rfl)
  clear HB Bbl 
  have HB := n_HB
  have Bbl := n_B
  clear n_HB n_B 
  generalize (((w2.setCell ⟨bl, 0, none⟩ (.int .i64 x0.1)).setCell ⟨bl, 1, none⟩ (.int .i64 x0.2.1)).setCell ⟨bl, 2, none⟩ (.int .i64 x0.2.2)) = w3 at HB Bbl  ⊢
  clear hx0 hx1 hx2 h3
  have hg3 := pw_cell_below HB.out G3.out
  have hx0 := pw_cell_below HB.out X0.out.1
  have hx1 := pw_cell_below HB.out X0.out.2.1
  have hx2 := pw_cell_below HB.out X0.out.2.2
  go_upto_region 5 with (first | ((with_reducible refine gate_dst (N := 7) rfl ?_); refine box_event ?hg (N := 7) ?hd (cs := #[.int .i64 0, .int .i64 0, .int .i64 0]) (t := 57) ?hr ?_; (case hd => rfl); (case hg => rfl); (case hr => first | (go_simp; done) | (go_simp; rfl)); intro bm hg_ w4 hbox hb; have Nlm := Aside0.mk (show bl ≠ bm from by rw [hg_]; exact Nat.ne_of_lt (blk_lt Bbl.out)); have Gbm := Aside0.mk (show w.heap.size ≤ bm from by rw [hg_]; exact HB.out.size); have n_HB := Aside0.mk (below_step HB.out hb); have Bbm := Aside0.mk hbox; have n_Bbl := Aside0.mk (blk_below Bbl.out hb); clear HB hb hbox hg_ Bbl; have HB := n_HB; have Bbl := n_Bbl; clear n_HB n_Bbl; have hbc_0 : w4.cell? ⟨bm, 0, none⟩ = some (.int .i64 0) := (blk_cell Bbm.out 0).trans rfl; have hbf_0 := blk_frozen Bbm.out 0; have hbc_1 : w4.cell? ⟨bm, 1, none⟩ = some (.int .i64 0) := (blk_cell Bbm.out 1).trans rfl; have hbf_1 := blk_frozen Bbm.out 1; have hbc_2 : w4.cell? ⟨bm, 2, none⟩ = some (.int .i64 0) := (blk_cell Bbm.out 2).trans rfl; have hbf_2 := blk_frozen Bbm.out 2))
  clear hbc_0 hbf_0 hbc_1 hbf_1 hbc_2 hbf_2
  have n_HB := Aside0.mk (show Below w.heap.size w (((w4.setCell ⟨bm, 0, none⟩ (.int .i64 x0.1)).setCell ⟨bm, 1, none⟩ (.int .i64 x0.2.1)).setCell ⟨bm, 2, none⟩ (.int .i64 x0.2.2)) from below_set (below_set (below_set HB.out Gbm.out) Gbm.out) Gbm.out)
  have n_B := Aside0.mk (blk_put (cs' := #[.int .i64 x0.1, .int .i64 x0.2.1, .int .i64 x0.2.2]) (blk_put (cs' := #[.int .i64 x0.1, .int .i64 x0.2.1, .int .i64 0]) (blk_put (cs' := #[.int .i64 x0.1, .int .i64 0, .int .i64 0]) (Bbm.out) 0 (.int .i64 x0.1) rfl) 1 (.int .i64 x0.2.1) rfl) 2 (.int .i64 x0.2.2) rfl)
  have n_Bbl := Aside0.mk (blk_far (p := ⟨bm, 2, none⟩) (blk_far (p := ⟨bm, 1, none⟩) (blk_far (p := ⟨bm, 0, none⟩) (Bbl.out) Nlm.out (.int .i64 x0.1)) Nlm.out (.int .i64 x0.2.1)) Nlm.out (.int .i64 x0.2.2))
  clear HB Bbm Bbl
  have HB := n_HB
  have Bbm := n_B
  have Bbl := n_Bbl
  clear n_HB n_B n_Bbl
  generalize (((w4.setCell ⟨bm, 0, none⟩ (.int .i64 x0.1)).setCell ⟨bm, 1, none⟩ (.int .i64 x0.2.1)).setCell ⟨bm, 2, none⟩ (.int .i64 x0.2.2)) = w5 at HB Bbm Bbl ⊢
  clear hg3 hx0 hx1 hx2 p0 p0n X0
  go_wp2
  go_loopg [3, 4, 5, 8] n (fun kq v3 v4 v5 v8 w' => ∃ (i li fi : Int) (a : RA), v3 = .int .i64 a.all ∧ v4 = .int .i64 li ∧ v5 = .int .i64 fi ∧ v8 = .int .i64 i ∧ Aside0 (0 ≤ i ∧ i + kq = n ∧ (0 ≤ li ∧ li < n) ∧ (0 ≤ fi ∧ fi < n) ∧ xs[li.toNat]? = some a.lst ∧ xs[fi.toNat]? = some a.fst ∧ (xs.drop i.toNat).foldl RA.step a = aF) ∧ Aside0 (Below w.heap.size w w') ∧ Aside0 (w'.heap[bl]? = some (.cells #[.int .i64 x0.1, .int .i64 a.la, .int .i64 a.lc] 57 (0, 0))) ∧ Aside0 (w'.heap[bm]? = some (.cells #[.int .i64 x0.1, .int .i64 a.ma, .int .i64 a.mc] 57 (0, 0))))
  case atStart => exact ⟨0, 0, 0, RA.start x0, rfl, rfl, rfl, rfl, ⟨by omega, by omega, ⟨by omega, P0.out⟩, ⟨by omega, P0.out⟩, H0.out, H0.out, HF.out⟩, HB, Bbl, Bbm⟩
  case round =>
   clear HB Bbl Bbm H0
   obtain ⟨i, li, fi, a, rfl, rfl, rfl, rfl, HR, HB, Bbl, Bbm⟩ := hrel
   have hg3 := pw_cell_below HB.out G3.out
   by_cases hi : i < (n : Int)
   ·obtain ⟨k1, rfl⟩ : ∃ k1, gk = k1 + 1 := ⟨gk - 1, by have := HR.out.2.1; omega⟩
    have hib : decide (i < (n : Int)) = true := decide_eq_true hi
    have hi0 := HR.out.1
    obtain ⟨x, hx⟩ : ∃ x, xs[i.toNat]? = some x := ⟨_, List.getElem?_eq_getElem (by have := HN.out; omega)⟩
    have HX := Aside0.mk hx
    obtain ⟨ad_, e1, hx0, hx1, hx2⟩ := at_kS (Kd.C_below HC.out HB.out) i hi0 hi hx
    obtain rfl : ad = ad_ := by injection e1
    clear e1 hx
    have HI := Aside0.mk (And.intro hi0 hi)
    replace hi0 := eq_true hi0
    replace hi := eq_true hi
    go_upto_region 9 with (first | ((with_reducible refine gate_dst (N := 9) rfl ?_); refine box_event ?hg (N := 9) ?hd (cs := #[.int .i64 0, .int .i64 0, .int .i64 0]) (t := 57) ?hr ?_; (case hd => rfl); (case hg => rfl); (case hr => first | (go_simp; done) | (go_simp; rfl)); intro gx hg_ w6 hbox hb; have Nlx := Aside0.mk (show bl ≠ gx from by rw [hg_]; exact Nat.ne_of_lt (blk_lt Bbl.out)); have Nmx := Aside0.mk (show bm ≠ gx from by rw [hg_]; exact Nat.ne_of_lt (blk_lt Bbm.out)); have Ggx := Aside0.mk (show w.heap.size ≤ gx from by rw [hg_]; exact HB.out.size); have n_HB := Aside0.mk (below_step HB.out hb); have Bgx := Aside0.mk hbox; have n_Bbl := Aside0.mk (blk_below Bbl.out hb); have n_Bbm := Aside0.mk (blk_below Bbm.out hb); clear HB hb hbox hg_ Bbl Bbm; have HB := n_HB; have Bbl := n_Bbl; have Bbm := n_Bbm; clear n_HB n_Bbl n_Bbm; have hbc_0 : w6.cell? ⟨gx, 0, none⟩ = some (.int .i64 0) := (blk_cell Bgx.out 0).trans rfl; have hbf_0 := blk_frozen Bgx.out 0; have hbc_1 : w6.cell? ⟨gx, 1, none⟩ = some (.int .i64 0) := (blk_cell Bgx.out 1).trans rfl; have hbf_1 := blk_frozen Bgx.out 1; have hbc_2 : w6.cell? ⟨gx, 2, none⟩ = some (.int .i64 0) := (blk_cell Bgx.out 2).trans rfl; have hbf_2 := blk_frozen Bgx.out 2))
    clear hbc_0 hbf_0 hbc_1 hbf_1 hbc_2 hbf_2
    have n_HB := Aside0.mk (show Below w.heap.size w (((w6.setCell ⟨gx, 0, none⟩ (.int .i64 x.1)).setCell ⟨gx, 1, none⟩ (.int .i64 x.2.1)).setCell ⟨gx, 2, none⟩ (.int .i64 x.2.2)) from below_set (below_set (below_set HB.out Ggx.out) Ggx.out) Ggx.out)
    have n_B := Aside0.mk (blk_put (cs' := #[.int .i64 x.1, .int .i64 x.2.1, .int .i64 x.2.2]) (blk_put (cs' := #[.int .i64 x.1, .int .i64 x.2.1, .int .i64 0]) (blk_put (cs' := #[.int .i64 x.1, .int .i64 0, .int .i64 0]) (Bgx.out) 0 (.int .i64 x.1) rfl) 1 (.int .i64 x.2.1) rfl) 2 (.int .i64 x.2.2) rfl)
    have n_Bbl := Aside0.mk (blk_far (p := ⟨gx, 2, none⟩) (blk_far (p := ⟨gx, 1, none⟩) (blk_far (p := ⟨gx, 0, none⟩) (Bbl.out) Nlx.out (.int .i64 x.1)) Nlx.out (.int .i64 x.2.1)) Nlx.out (.int .i64 x.2.2))
    have n_Bbm := Aside0.mk (blk_far (p := ⟨gx, 2, none⟩) (blk_far (p := ⟨gx, 1, none⟩) (blk_far (p := ⟨gx, 0, none⟩) (Bbm.out) Nmx.out (.int .i64 x.1)) Nmx.out (.int .i64 x.2.1)) Nmx.out (.int .i64 x.2.2))
    clear HB Bgx Bbl Bbm
    have HB := n_HB
    have Bgx := n_B
    have Bbl := n_Bbl
    have Bbm := n_Bbm
    clear n_HB n_B n_Bbl n_Bbm
    generalize (((w6.setCell ⟨gx, 0, none⟩ (.int .i64 x.1)).setCell ⟨gx, 1, none⟩ (.int .i64 x.2.1)).setCell ⟨gx, 2, none⟩ (.int .i64 x.2.2)) = w7 at HB Bgx Bbl Bbm ⊢
    clear hg3 hx0 hx1 hx2
    have hg3 := pw_cell_below HB.out G3.out
    have hbc_0 : w7.cell? ⟨gx, 0, none⟩ = some (.int .i64 x.1) := (blk_cell Bgx.out 0).trans rfl
    have hbc_1 : w7.cell? ⟨gx, 1, none⟩ = some (.int .i64 x.2.1) := (blk_cell Bgx.out 1).trans rfl
    have hbc_2 : w7.cell? ⟨gx, 2, none⟩ = some (.int .i64 x.2.2) := (blk_cell Bgx.out 2).trans rfl
    obtain ⟨ad_, e1, hl0, hl1, hl2⟩ := at_kS (Kd.C_below HC.out HB.out) li HR.out.2.2.1.1 HR.out.2.2.1.2 HR.out.2.2.2.2.1
    obtain rfl : ad = ad_ := by injection e1
    clear e1
    have pl := eq_true HR.out.2.2.1.1
    have ql := eq_true HR.out.2.2.1.2
    obtain ⟨ad_, e1, hf0, hf1, hf2⟩ := at_kS (Kd.C_below HC.out HB.out) fi HR.out.2.2.2.1.1 HR.out.2.2.2.1.2 HR.out.2.2.2.2.2.1
    obtain rfl : ad = ad_ := by injection e1
    clear e1
    have pf := eq_true HR.out.2.2.2.1.1
    have qf := eq_true HR.out.2.2.2.1.2
    by_cases c1 : a.lst.2.1 ≤ x.2.1
    ·by_cases c2 : x.2.2 < a.fst.2.2
     ·have c1b : decide (a.lst.2.1 ≤ x.2.1) = true := decide_eq_true c1
      have c2b : decide (x.2.2 < a.fst.2.2) = true := decide_eq_true c2
      have C1 := Aside0.mk c1
      have C2 := Aside0.mk c2
      clear c1 c2
      go_upto_region 10 with (first | fail)
      go_quiet (fail)
      go_upto_region 12 with (first | fail)
      go_quiet (fail)
      go_upto_region 14 with (first | fail)
      refine namedR_ (fun w8 hw8 => ?_)
      have n_HB := Aside0.mk (show Below w.heap.size w w8 from by rw [hw8]; repeat (first | exact HB.out | apply pw_below_drewN | apply below_drew1))
      have n_Bbl := Aside0.mk (show w8.heap[bl]? = some (.cells #[.int .i64 x0.1, .int .i64 a.la, .int .i64 a.lc] 57 (0, 0)) from by rw [hw8]; (with_reducible repeat (first | refine blk_drewN ?_ _ | refine blk_drew ?_)); exact Bbl.out)
      have n_Bbm := Aside0.mk (show w8.heap[bm]? = some (.cells #[.int .i64 x0.1, .int .i64 a.ma, .int .i64 a.mc] 57 (0, 0)) from by rw [hw8]; (with_reducible repeat (first | refine blk_drewN ?_ _ | refine blk_drew ?_)); exact Bbm.out)
      have n_Bgx := Aside0.mk (show w8.heap[gx]? = some (.cells #[.int .i64 x.1, .int .i64 x.2.1, .int .i64 x.2.2] 57 (0, 0)) from by rw [hw8]; (with_reducible repeat (first | refine blk_drewN ?_ _ | refine blk_drew ?_)); exact Bgx.out)
      clear HB Bbl Bbm Bgx hw8 hg3 hbc_0 hbc_1 hbc_2 hl0 hl1 hl2 hf0 hf1 hf2 pl ql pf qf hib c1b c2b
      have HB := n_HB
      have Bbl := n_Bbl
      have Bbm := n_Bbm
      have Bgx := n_Bgx
      clear n_HB n_Bbl n_Bbm n_Bgx
      obtain ⟨nbla, hnbla⟩ : ∃ y, (if x.2.1 < a.la then x.2.1 else a.la) = y := ⟨_, rfl⟩
      obtain ⟨nblc, hnblc⟩ : ∃ y, (if x.2.2 < a.lc then x.2.2 else a.lc) = y := ⟨_, rfl⟩
      have n_HB := Aside0.mk (below_step HB.out (below_drew (Below.refl _ _)))
      have n_Bbl := Aside0.mk (blk_below Bbl.out (below_drew (Below.refl _ _)))
      have n_Bbm := Aside0.mk (blk_below Bbm.out (below_drew (Below.refl _ _)))
      have n_Bgx := Aside0.mk (blk_below Bgx.out (below_drew (Below.refl _ _)))
      clear HB Bbl Bbm Bgx
      have HB := n_HB
      have Bbl := n_Bbl
      have Bbm := n_Bbm
      have Bgx := n_Bgx
      clear n_HB n_Bbl n_Bbm n_Bgx
      refine start_ (n := 14) (S := fun w' => w'.cell? ⟨bl, 2, none⟩ = some (.int .i64 a.lc) ∧ w'.cell? ⟨gx, 1, none⟩ = some (.int .i64 x.2.1) ∧ w'.cell? ⟨gx, 2, none⟩ = some (.int .i64 x.2.2)) (ds := [13]) #[false, false, false, false, false, false, false, false, false, false, false, false, false, false] (by kernel_rfl) rfl rfl ⟨(blk_cell Bbl.out 2).trans rfl, (blk_cell Bgx.out 1).trans rfl, (blk_cell Bgx.out 2).trans rfl⟩ (fun hHeld => ?_); refine with_tabW flywheelref26_cluster_result.tab14 flywheelref26_cluster_result.bits14 (fun HT_ HW_ => ?_)
      generalize World.drew w8 = w9 at HB Bbl Bbm Bgx hHeld ⊢
      refine pure_ (i := 0) (N := some 68) (v := ?_) (a' := ?_) #[true, false, false, false, false, false, false, false, false, false, false, false, false, false] rfl rfl (any_of HT_.out (by kernel_rfl)) (fun _ _ _ h => h) (Or.inl ⟨by rfl, ?_⟩) ?_ ?_
      rotate_left
      ·intro w'
       go_simp
       with_reducible rfl
      rotate_left
      ·simp only [Act.put, List.setIfInBounds_toArray, List.set_cons_zero, List.set_cons_succ, i64_w, i32_w]
       rfl
      refine pure_ (i := 2) (N := some 70) (v := ?_) (a' := ?_) #[true, false, true, false, false, false, false, false, false, false, false, false, false, false] rfl rfl (any_of HT_.out (by kernel_rfl)) (fun _ _ _ h => h) (Or.inl ⟨by rfl, ?_⟩) ?_ ?_
      rotate_left
      ·intro w'
       go_simp
       with_reducible rfl
      rotate_left
      ·simp only [Act.put, List.setIfInBounds_toArray, List.set_cons_zero, List.set_cons_succ, i64_w, i32_w]
       rfl
      refine take_ (i := 3) (N := some 71) (v := ?_) (a' := ?_) #[true, false, true, true, false, false, false, false, false, false, false, false, false, false] rfl rfl (take_ofW HT_.out HW_.out (by kernel_rfl)) (fun _ _ _ h => h) (Or.inl ⟨by rfl, ?_⟩) hHeld ?_ ?_
      rotate_left
      ·rintro w' ⟨s0, s1, s2⟩
       go_simp
       with_reducible rfl
      rotate_left
      ·simp only [Act.put, List.setIfInBounds_toArray, List.set_cons_zero, List.set_cons_succ, i64_w, i32_w]
       rfl
      refine pure_ (i := 5) (N := some 73) (v := ?_) (a' := ?_) #[true, false, true, true, false, true, false, false, false, false, false, false, false, false] rfl rfl (any_of HT_.out (by kernel_rfl)) (fun _ _ _ h => h) (Or.inl ⟨by rfl, ?_⟩) ?_ ?_
      rotate_left
      ·intro w'
       go_simp
       with_reducible rfl
      rotate_left
      ·simp only [Act.put, List.setIfInBounds_toArray, List.set_cons_zero, List.set_cons_succ, i64_w, i32_w]
       rfl
      refine take_ (i := 6) (N := some 74) (v := ?_) (a' := ?_) #[true, false, true, true, false, true, true, false, false, false, false, false, false, false] rfl rfl (take_ofW HT_.out HW_.out (by kernel_rfl)) (fun _ _ _ h => h) (Or.inl ⟨by rfl, ?_⟩) hHeld ?_ ?_
      rotate_left
      ·rintro w' ⟨s0, s1, s2⟩
       go_simp
       with_reducible rfl
      rotate_left
      ·simp only [Act.put, List.setIfInBounds_toArray, List.set_cons_zero, List.set_cons_succ, i64_w, i32_w]
       rfl
      refine pure_ (i := 7) (N := some 75) (v := ?_) (a' := ?_) #[true, false, true, true, false, true, true, true, false, false, false, false, false, false] rfl rfl (any_of HT_.out (by kernel_rfl)) (fun _ _ _ h => h) (Or.inl ⟨by rfl, ?_⟩) ?_ ?_
      rotate_left
      ·intro w'
       go_simp
       with_reducible rfl
      rotate_left
      ·simp only [Act.put, List.setIfInBounds_toArray, List.set_cons_zero, List.set_cons_succ, i64_w, i32_w]
       rfl
      refine take_ (i := 8) (N := some 76) (v := ?_) (a' := ?_) #[true, false, true, true, false, true, true, true, true, false, false, false, false, false] rfl rfl (take_ofW HT_.out HW_.out (by kernel_rfl)) (fun _ _ _ h => h) (Or.inl ⟨by rfl, ?_⟩) hHeld ?_ ?_
      rotate_left
      ·rintro w' ⟨s0, s1, s2⟩
       go_simp
       with_reducible rfl
      rotate_left
      ·simp only [Act.put, List.setIfInBounds_toArray, List.set_cons_zero, List.set_cons_succ, i64_w, i32_w]
       rfl
      refine pure_ (i := 9) (N := some 77) (v := ?_) (a' := ?_) #[true, false, true, true, false, true, true, true, true, true, false, false, false, false] rfl rfl (any_of HT_.out (by kernel_rfl)) (fun _ _ _ h => h) (Or.inl ⟨by rfl, ?_⟩) ?_ ?_
      rotate_left
      ·intro w'
       go_simp
       with_reducible rfl
      rotate_left
      ·simp only [Act.put, List.setIfInBounds_toArray, List.set_cons_zero, List.set_cons_succ, i64_w, i32_w]
       rfl
      have hv_ : w9.cell? ⟨bl, 1, none⟩ = some (.int .i64 a.la) := (blk_cell Bbl.out 1).trans rfl
      refine one_ (i := 1) (N := some 69) #[true, true, true, true, false, true, true, true, true, true, false, false, false, false] rfl rfl (one_of HT_.out (by kernel_rfl)) (by decide) (fun K hK => ?_)
      refine value_ (v := .int .i64 a.la) (w1 := w9) (by rfl) rfl ?_ ?_
      ·go_simp
      clear hv_
      refine hK.out _ _ ⟨(blk_cell Bbl.out 2).trans rfl, (blk_cell Bgx.out 1).trans rfl, (blk_cell Bgx.out 2).trans rfl⟩ (fun hHeld => ?_)
      clear hK K
      refine norm_ (a' := ?_) ?_ ?_
      rotate_left
      ·show Act.put _ (some 69) _ = _
       simp only [Act.put, List.setIfInBounds_toArray, List.set_cons_zero, List.set_cons_succ, i64_w, i32_w]
       rfl
      refine pure_ (i := 4) (N := some 72) (v := ?_) (a' := ?_) #[true, true, true, true, true, true, true, true, true, true, false, false, false, false] rfl rfl (any_of HT_.out (by kernel_rfl)) (fun _ _ _ h => h) (Or.inl ⟨by rfl, ?_⟩) ?_ ?_
      rotate_left
      ·intro w'
       go_simp
       with_reducible rfl
      rotate_left
      ·simp only [Act.put, List.setIfInBounds_toArray, List.set_cons_zero, List.set_cons_succ, i64_w, i32_w]
       rfl
      refine pure_ (i := 10) (N := some 78) (v := ?_) (a' := ?_) #[true, true, true, true, true, true, true, true, true, true, true, false, false, false] rfl rfl (any_of HT_.out (by kernel_rfl)) (fun _ _ _ h => h) (Or.inl ⟨by rfl, ?_⟩) ?_ ?_
      rotate_left
      ·intro w'
       go_simp
       with_reducible rfl
      rotate_left
      ·simp only [Act.put, List.setIfInBounds_toArray, List.set_cons_zero, List.set_cons_succ, i64_w, i32_w]
       rfl
      have hs_ : w9.cell? ⟨bl, 1, none⟩ = some (.int .i64 a.la) := (blk_cell Bbl.out 1).trans rfl
      have hfs_ := blk_frozen Bbl.out 1
      refine one_ (i := 11) (N := none) #[true, true, true, true, true, true, true, true, true, true, true, true, false, false] rfl rfl (one_of HT_.out (by kernel_rfl)) (by decide) (fun K hK => ?_)
      refine skip_ (w1 := ?_) (by rfl) rfl ?_ ?_
      rotate_left
      ·go_simp
       rfl
      clear hs_ hfs_
      have n_HB := Aside0.mk (show Below w.heap.size w (w9.setCell ⟨bl, 1, none⟩ (.int .i64 nbla)) from below_set HB.out Gbl.out)
      have n_1 := Aside0.mk (blk_put (cs' := #[.int .i64 x0.1, .int .i64 nbla, .int .i64 a.lc]) Bbl.out 1 (.int .i64 nbla) rfl)
      have n_2 := Aside0.mk (blk_far (p := ⟨bl, 1, none⟩) Bbm.out (Ne.symm Nlm.out) (.int .i64 nbla))
      have n_3 := Aside0.mk (blk_far (p := ⟨bl, 1, none⟩) Bgx.out (Ne.symm Nlx.out) (.int .i64 nbla))
      clear HB Bbl Bbm Bgx
      have HB := n_HB
      have Bbl := n_1
      have Bbm := n_2
      have Bgx := n_3
      clear n_HB n_1 n_2 n_3
      generalize (w9.setCell ⟨bl, 1, none⟩ (.int .i64 nbla)) = w9a at HB Bbl Bbm Bgx ⊢
      refine hK.out _ _ ⟨(blk_cell Bbl.out 2).trans rfl, (blk_cell Bgx.out 1).trans rfl, (blk_cell Bgx.out 2).trans rfl⟩ (fun hHeld => ?_)
      clear hK K
      refine pure_ (i := 12) (N := some 79) (v := ?_) (a' := ?_) #[true, true, true, true, true, true, true, true, true, true, true, true, true, false] rfl rfl (any_of HT_.out (by kernel_rfl)) (fun _ _ _ h => h) (Or.inl ⟨by rfl, ?_⟩) ?_ ?_
      rotate_left
      ·intro w'
       go_simp
       with_reducible rfl
      rotate_left
      ·simp only [Act.put, List.setIfInBounds_toArray, List.set_cons_zero, List.set_cons_succ, i64_w, i32_w]
       rfl
      have hs_ : w9a.cell? ⟨bl, 2, none⟩ = some (.int .i64 a.lc) := (blk_cell Bbl.out 2).trans rfl
      have hfs_ := blk_frozen Bbl.out 2
      refine last_ (i := 13) (N := none) #[true, true, true, true, true, true, true, true, true, true, true, true, true, true] rfl rfl (one_of HT_.out (by kernel_rfl)) (by decide) (fun K hK => ?_)
      refine skip_ (w1 := ?_) (by rfl) rfl ?_ ?_
      rotate_left
      ·go_simp
       rfl
      clear hs_ hfs_
      have n_HB := Aside0.mk (show Below w.heap.size w (w9a.setCell ⟨bl, 2, none⟩ (.int .i64 nblc)) from below_set HB.out Gbl.out)
      have n_1 := Aside0.mk (blk_put (cs' := #[.int .i64 x0.1, .int .i64 nbla, .int .i64 nblc]) Bbl.out 2 (.int .i64 nblc) rfl)
      have n_2 := Aside0.mk (blk_far (p := ⟨bl, 2, none⟩) Bbm.out (Ne.symm Nlm.out) (.int .i64 nblc))
      have n_3 := Aside0.mk (blk_far (p := ⟨bl, 2, none⟩) Bgx.out (Ne.symm Nlx.out) (.int .i64 nblc))
      clear HB Bbl Bbm Bgx
      have HB := n_HB
      have Bbl := n_1
      have Bbm := n_2
      have Bgx := n_3
      clear n_HB n_1 n_2 n_3
      generalize (w9a.setCell ⟨bl, 2, none⟩ (.int .i64 nblc)) = w9b at HB Bbl Bbm Bgx ⊢
      refine hK.out _ _ ?_
      clear hK K
      refine done_ (done_of HT_.out (by kernel_rfl)) ?_
      clear hHeld HT_ HW_
      try go_wp2
      obtain ⟨nbma, hnbma⟩ : ∃ y, (if a.ma < x.2.1 then x.2.1 else a.ma) = y := ⟨_, rfl⟩
      obtain ⟨nbmc, hnbmc⟩ : ∃ y, (if a.mc < x.2.2 then x.2.2 else a.mc) = y := ⟨_, rfl⟩
      have n_HB := Aside0.mk (below_step HB.out (below_drew (Below.refl _ _)))
      have n_Bbl := Aside0.mk (blk_below Bbl.out (below_drew (Below.refl _ _)))
      have n_Bbm := Aside0.mk (blk_below Bbm.out (below_drew (Below.refl _ _)))
      have n_Bgx := Aside0.mk (blk_below Bgx.out (below_drew (Below.refl _ _)))
      clear HB Bbl Bbm Bgx
      have HB := n_HB
      have Bbl := n_Bbl
      have Bbm := n_Bbm
      have Bgx := n_Bgx
      clear n_HB n_Bbl n_Bbm n_Bgx
      refine start_ (n := 14) (S := fun w' => w'.cell? ⟨bm, 2, none⟩ = some (.int .i64 a.mc) ∧ w'.cell? ⟨gx, 1, none⟩ = some (.int .i64 x.2.1) ∧ w'.cell? ⟨gx, 2, none⟩ = some (.int .i64 x.2.2)) (ds := [13]) #[false, false, false, false, false, false, false, false, false, false, false, false, false, false] (by kernel_rfl) rfl rfl ⟨(blk_cell Bbm.out 2).trans rfl, (blk_cell Bgx.out 1).trans rfl, (blk_cell Bgx.out 2).trans rfl⟩ (fun hHeld => ?_); refine with_tabW flywheelref26_cluster_result.tab15 flywheelref26_cluster_result.bits15 (fun HT_ HW_ => ?_)
      generalize World.drew w9b = w10 at HB Bbl Bbm Bgx hHeld ⊢
      refine pure_ (i := 0) (N := some 80) (v := ?_) (a' := ?_) #[true, false, false, false, false, false, false, false, false, false, false, false, false, false] rfl rfl (any_of HT_.out (by kernel_rfl)) (fun _ _ _ h => h) (Or.inl ⟨by rfl, ?_⟩) ?_ ?_
      rotate_left
      ·intro w'
       go_simp
       with_reducible rfl
      rotate_left
      ·simp only [Act.put, List.setIfInBounds_toArray, List.set_cons_zero, List.set_cons_succ, i64_w, i32_w]
       rfl
      refine pure_ (i := 2) (N := some 82) (v := ?_) (a' := ?_) #[true, false, true, false, false, false, false, false, false, false, false, false, false, false] rfl rfl (any_of HT_.out (by kernel_rfl)) (fun _ _ _ h => h) (Or.inl ⟨by rfl, ?_⟩) ?_ ?_
      rotate_left
      ·intro w'
       go_simp
       with_reducible rfl
      rotate_left
      ·simp only [Act.put, List.setIfInBounds_toArray, List.set_cons_zero, List.set_cons_succ, i64_w, i32_w]
       rfl
      refine take_ (i := 3) (N := some 83) (v := ?_) (a' := ?_) #[true, false, true, true, false, false, false, false, false, false, false, false, false, false] rfl rfl (take_ofW HT_.out HW_.out (by kernel_rfl)) (fun _ _ _ h => h) (Or.inl ⟨by rfl, ?_⟩) hHeld ?_ ?_
      rotate_left
      ·rintro w' ⟨s0, s1, s2⟩
       go_simp
       with_reducible rfl
      rotate_left
      ·simp only [Act.put, List.setIfInBounds_toArray, List.set_cons_zero, List.set_cons_succ, i64_w, i32_w]
       rfl
      refine pure_ (i := 5) (N := some 85) (v := ?_) (a' := ?_) #[true, false, true, true, false, true, false, false, false, false, false, false, false, false] rfl rfl (any_of HT_.out (by kernel_rfl)) (fun _ _ _ h => h) (Or.inl ⟨by rfl, ?_⟩) ?_ ?_
      rotate_left
      ·intro w'
       go_simp
       with_reducible rfl
      rotate_left
      ·simp only [Act.put, List.setIfInBounds_toArray, List.set_cons_zero, List.set_cons_succ, i64_w, i32_w]
       rfl
      refine take_ (i := 6) (N := some 86) (v := ?_) (a' := ?_) #[true, false, true, true, false, true, true, false, false, false, false, false, false, false] rfl rfl (take_ofW HT_.out HW_.out (by kernel_rfl)) (fun _ _ _ h => h) (Or.inl ⟨by rfl, ?_⟩) hHeld ?_ ?_
      rotate_left
      ·rintro w' ⟨s0, s1, s2⟩
       go_simp
       with_reducible rfl
      rotate_left
      ·simp only [Act.put, List.setIfInBounds_toArray, List.set_cons_zero, List.set_cons_succ, i64_w, i32_w]
       rfl
      refine pure_ (i := 7) (N := some 87) (v := ?_) (a' := ?_) #[true, false, true, true, false, true, true, true, false, false, false, false, false, false] rfl rfl (any_of HT_.out (by kernel_rfl)) (fun _ _ _ h => h) (Or.inl ⟨by rfl, ?_⟩) ?_ ?_
      rotate_left
      ·intro w'
       go_simp
       with_reducible rfl
      rotate_left
      ·simp only [Act.put, List.setIfInBounds_toArray, List.set_cons_zero, List.set_cons_succ, i64_w, i32_w]
       rfl
      refine take_ (i := 8) (N := some 88) (v := ?_) (a' := ?_) #[true, false, true, true, false, true, true, true, true, false, false, false, false, false] rfl rfl (take_ofW HT_.out HW_.out (by kernel_rfl)) (fun _ _ _ h => h) (Or.inl ⟨by rfl, ?_⟩) hHeld ?_ ?_
      rotate_left
      ·rintro w' ⟨s0, s1, s2⟩
       go_simp
       with_reducible rfl
      rotate_left
      ·simp only [Act.put, List.setIfInBounds_toArray, List.set_cons_zero, List.set_cons_succ, i64_w, i32_w]
       rfl
      refine pure_ (i := 9) (N := some 89) (v := ?_) (a' := ?_) #[true, false, true, true, false, true, true, true, true, true, false, false, false, false] rfl rfl (any_of HT_.out (by kernel_rfl)) (fun _ _ _ h => h) (Or.inl ⟨by rfl, ?_⟩) ?_ ?_
      rotate_left
      ·intro w'
       go_simp
       with_reducible rfl
      rotate_left
      ·simp only [Act.put, List.setIfInBounds_toArray, List.set_cons_zero, List.set_cons_succ, i64_w, i32_w]
       rfl
      have hv_ : w10.cell? ⟨bm, 1, none⟩ = some (.int .i64 a.ma) := (blk_cell Bbm.out 1).trans rfl
      refine one_ (i := 1) (N := some 81) #[true, true, true, true, false, true, true, true, true, true, false, false, false, false] rfl rfl (one_of HT_.out (by kernel_rfl)) (by decide) (fun K hK => ?_)
      refine value_ (v := .int .i64 a.ma) (w1 := w10) (by rfl) rfl ?_ ?_
      ·go_simp
      clear hv_
      refine hK.out _ _ ⟨(blk_cell Bbm.out 2).trans rfl, (blk_cell Bgx.out 1).trans rfl, (blk_cell Bgx.out 2).trans rfl⟩ (fun hHeld => ?_)
      clear hK K
      refine norm_ (a' := ?_) ?_ ?_
      rotate_left
      ·show Act.put _ (some 81) _ = _
       simp only [Act.put, List.setIfInBounds_toArray, List.set_cons_zero, List.set_cons_succ, i64_w, i32_w]
       rfl
      refine pure_ (i := 4) (N := some 84) (v := ?_) (a' := ?_) #[true, true, true, true, true, true, true, true, true, true, false, false, false, false] rfl rfl (any_of HT_.out (by kernel_rfl)) (fun _ _ _ h => h) (Or.inl ⟨by rfl, ?_⟩) ?_ ?_
      rotate_left
      ·intro w'
       go_simp
       with_reducible rfl
      rotate_left
      ·simp only [Act.put, List.setIfInBounds_toArray, List.set_cons_zero, List.set_cons_succ, i64_w, i32_w]
       rfl
      refine pure_ (i := 10) (N := some 90) (v := ?_) (a' := ?_) #[true, true, true, true, true, true, true, true, true, true, true, false, false, false] rfl rfl (any_of HT_.out (by kernel_rfl)) (fun _ _ _ h => h) (Or.inl ⟨by rfl, ?_⟩) ?_ ?_
      rotate_left
      ·intro w'
       go_simp
       with_reducible rfl
      rotate_left
      ·simp only [Act.put, List.setIfInBounds_toArray, List.set_cons_zero, List.set_cons_succ, i64_w, i32_w]
       rfl
      have hs_ : w10.cell? ⟨bm, 1, none⟩ = some (.int .i64 a.ma) := (blk_cell Bbm.out 1).trans rfl
      have hfs_ := blk_frozen Bbm.out 1
      refine one_ (i := 11) (N := none) #[true, true, true, true, true, true, true, true, true, true, true, true, false, false] rfl rfl (one_of HT_.out (by kernel_rfl)) (by decide) (fun K hK => ?_)
      refine skip_ (w1 := ?_) (by rfl) rfl ?_ ?_
      rotate_left
      ·go_simp
       rfl
      clear hs_ hfs_
      have n_HB := Aside0.mk (show Below w.heap.size w (w10.setCell ⟨bm, 1, none⟩ (.int .i64 nbma)) from below_set HB.out Gbm.out)
      have n_1 := Aside0.mk (blk_put (cs' := #[.int .i64 x0.1, .int .i64 nbma, .int .i64 a.mc]) Bbm.out 1 (.int .i64 nbma) rfl)
      have n_2 := Aside0.mk (blk_far (p := ⟨bm, 1, none⟩) Bbl.out Nlm.out (.int .i64 nbma))
      have n_3 := Aside0.mk (blk_far (p := ⟨bm, 1, none⟩) Bgx.out (Ne.symm Nmx.out) (.int .i64 nbma))
      clear HB Bbm Bbl Bgx
      have HB := n_HB
      have Bbm := n_1
      have Bbl := n_2
      have Bgx := n_3
      clear n_HB n_1 n_2 n_3
      generalize (w10.setCell ⟨bm, 1, none⟩ (.int .i64 nbma)) = w10a at HB Bbm Bbl Bgx ⊢
      refine hK.out _ _ ⟨(blk_cell Bbm.out 2).trans rfl, (blk_cell Bgx.out 1).trans rfl, (blk_cell Bgx.out 2).trans rfl⟩ (fun hHeld => ?_)
      clear hK K
      refine pure_ (i := 12) (N := some 91) (v := ?_) (a' := ?_) #[true, true, true, true, true, true, true, true, true, true, true, true, true, false] rfl rfl (any_of HT_.out (by kernel_rfl)) (fun _ _ _ h => h) (Or.inl ⟨by rfl, ?_⟩) ?_ ?_
      rotate_left
      ·intro w'
       go_simp
       with_reducible rfl
      rotate_left
      ·simp only [Act.put, List.setIfInBounds_toArray, List.set_cons_zero, List.set_cons_succ, i64_w, i32_w]
       rfl
      have hs_ : w10a.cell? ⟨bm, 2, none⟩ = some (.int .i64 a.mc) := (blk_cell Bbm.out 2).trans rfl
      have hfs_ := blk_frozen Bbm.out 2
      refine last_ (i := 13) (N := none) #[true, true, true, true, true, true, true, true, true, true, true, true, true, true] rfl rfl (one_of HT_.out (by kernel_rfl)) (by decide) (fun K hK => ?_)
      refine skip_ (w1 := ?_) (by rfl) rfl ?_ ?_
      rotate_left
      ·go_simp
       rfl
      clear hs_ hfs_
      have n_HB := Aside0.mk (show Below w.heap.size w (w10a.setCell ⟨bm, 2, none⟩ (.int .i64 nbmc)) from below_set HB.out Gbm.out)
      have n_1 := Aside0.mk (blk_put (cs' := #[.int .i64 x0.1, .int .i64 nbma, .int .i64 nbmc]) Bbm.out 2 (.int .i64 nbmc) rfl)
      have n_2 := Aside0.mk (blk_far (p := ⟨bm, 2, none⟩) Bbl.out Nlm.out (.int .i64 nbmc))
      have n_3 := Aside0.mk (blk_far (p := ⟨bm, 2, none⟩) Bgx.out (Ne.symm Nmx.out) (.int .i64 nbmc))
      clear HB Bbm Bbl Bgx
      have HB := n_HB
      have Bbm := n_1
      have Bbl := n_2
      have Bgx := n_3
      clear n_HB n_1 n_2 n_3
      generalize (w10a.setCell ⟨bm, 2, none⟩ (.int .i64 nbmc)) = w10b at HB Bbm Bbl Bgx ⊢
      refine hK.out _ _ ?_
      clear hK K
      refine done_ (done_of HT_.out (by kernel_rfl)) ?_
      clear hHeld HT_ HW_
      try go_wp2
      go_roundg k1
      case measure => omega
      case rel =>
       have hw : wrap64 (i + 1) = i + 1 := by have := HI.out; have := HN.out; have := HL.out; unfold wrap64; omega
       have e1 : (RA.step a x).la = nbla := hnbla
       have e2 : (RA.step a x).lc = nblc := hnblc
       have e3 : (RA.step a x).ma = nbma := hnbma
       have e4 : (RA.step a x).mc = nbmc := hnbmc
       have e5 : (RA.step a x).lst = x := if_pos C1.out
       have e6 : (RA.step a x).fst = x := if_pos C2.out
       have h7 := HR.out
       have h8 := HI.out
       exact ⟨i + 1, i, i, RA.step a x, rfl, rfl, rfl, by rw [hw], ⟨by omega, by omega, h8, h8, by rw [e5]; exact HX.out, by rw [e6]; exact HX.out, fold_next h8.1 HX.out h7.2.2.2.2.2.2⟩, HB, ⟨by rw [e1, e2]; exact Bbl.out⟩, ⟨by rw [e3, e4]; exact Bbm.out⟩⟩
     ·have c1b : decide (a.lst.2.1 ≤ x.2.1) = true := decide_eq_true c1
      have c2b : decide (x.2.2 < a.fst.2.2) = false := decide_eq_false c2
      have C1 := Aside0.mk c1
      have C2 := Aside0.mk c2
      clear c1 c2
      go_upto_region 10 with (first | fail)
      go_quiet (fail)
      go_upto_region 12 with (first | fail)
      go_quiet (fail)
      go_upto_region 14 with (first | fail)
      refine namedR_ (fun w8 hw8 => ?_)
      have n_HB := Aside0.mk (show Below w.heap.size w w8 from by rw [hw8]; repeat (first | exact HB.out | apply pw_below_drewN | apply below_drew1))
      have n_Bbl := Aside0.mk (show w8.heap[bl]? = some (.cells #[.int .i64 x0.1, .int .i64 a.la, .int .i64 a.lc] 57 (0, 0)) from by rw [hw8]; (with_reducible repeat (first | refine blk_drewN ?_ _ | refine blk_drew ?_)); exact Bbl.out)
      have n_Bbm := Aside0.mk (show w8.heap[bm]? = some (.cells #[.int .i64 x0.1, .int .i64 a.ma, .int .i64 a.mc] 57 (0, 0)) from by rw [hw8]; (with_reducible repeat (first | refine blk_drewN ?_ _ | refine blk_drew ?_)); exact Bbm.out)
      have n_Bgx := Aside0.mk (show w8.heap[gx]? = some (.cells #[.int .i64 x.1, .int .i64 x.2.1, .int .i64 x.2.2] 57 (0, 0)) from by rw [hw8]; (with_reducible repeat (first | refine blk_drewN ?_ _ | refine blk_drew ?_)); exact Bgx.out)
      clear HB Bbl Bbm Bgx hw8 hg3 hbc_0 hbc_1 hbc_2 hl0 hl1 hl2 hf0 hf1 hf2 pl ql pf qf hib c1b c2b
      have HB := n_HB
      have Bbl := n_Bbl
      have Bbm := n_Bbm
      have Bgx := n_Bgx
      clear n_HB n_Bbl n_Bbm n_Bgx
      obtain ⟨nbla, hnbla⟩ : ∃ y, (if x.2.1 < a.la then x.2.1 else a.la) = y := ⟨_, rfl⟩
      obtain ⟨nblc, hnblc⟩ : ∃ y, (if x.2.2 < a.lc then x.2.2 else a.lc) = y := ⟨_, rfl⟩
      have n_HB := Aside0.mk (below_step HB.out (below_drew (Below.refl _ _)))
      have n_Bbl := Aside0.mk (blk_below Bbl.out (below_drew (Below.refl _ _)))
      have n_Bbm := Aside0.mk (blk_below Bbm.out (below_drew (Below.refl _ _)))
      have n_Bgx := Aside0.mk (blk_below Bgx.out (below_drew (Below.refl _ _)))
      clear HB Bbl Bbm Bgx
      have HB := n_HB
      have Bbl := n_Bbl
      have Bbm := n_Bbm
      have Bgx := n_Bgx
      clear n_HB n_Bbl n_Bbm n_Bgx
      refine start_ (n := 14) (S := fun w' => w'.cell? ⟨bl, 2, none⟩ = some (.int .i64 a.lc) ∧ w'.cell? ⟨gx, 1, none⟩ = some (.int .i64 x.2.1) ∧ w'.cell? ⟨gx, 2, none⟩ = some (.int .i64 x.2.2)) (ds := [13]) #[false, false, false, false, false, false, false, false, false, false, false, false, false, false] (by kernel_rfl) rfl rfl ⟨(blk_cell Bbl.out 2).trans rfl, (blk_cell Bgx.out 1).trans rfl, (blk_cell Bgx.out 2).trans rfl⟩ (fun hHeld => ?_); refine with_tabW flywheelref26_cluster_result.tab14 flywheelref26_cluster_result.bits14 (fun HT_ HW_ => ?_)
      generalize World.drew w8 = w9 at HB Bbl Bbm Bgx hHeld ⊢
      refine pure_ (i := 0) (N := some 68) (v := ?_) (a' := ?_) #[true, false, false, false, false, false, false, false, false, false, false, false, false, false] rfl rfl (any_of HT_.out (by kernel_rfl)) (fun _ _ _ h => h) (Or.inl ⟨by rfl, ?_⟩) ?_ ?_
      rotate_left
      ·intro w'
       go_simp
       with_reducible rfl
      rotate_left
      ·simp only [Act.put, List.setIfInBounds_toArray, List.set_cons_zero, List.set_cons_succ, i64_w, i32_w]
       rfl
      refine pure_ (i := 2) (N := some 70) (v := ?_) (a' := ?_) #[true, false, true, false, false, false, false, false, false, false, false, false, false, false] rfl rfl (any_of HT_.out (by kernel_rfl)) (fun _ _ _ h => h) (Or.inl ⟨by rfl, ?_⟩) ?_ ?_
      rotate_left
      ·intro w'
       go_simp
       with_reducible rfl
      rotate_left
      ·simp only [Act.put, List.setIfInBounds_toArray, List.set_cons_zero, List.set_cons_succ, i64_w, i32_w]
       rfl
      refine take_ (i := 3) (N := some 71) (v := ?_) (a' := ?_) #[true, false, true, true, false, false, false, false, false, false, false, false, false, false] rfl rfl (take_ofW HT_.out HW_.out (by kernel_rfl)) (fun _ _ _ h => h) (Or.inl ⟨by rfl, ?_⟩) hHeld ?_ ?_
      rotate_left
      ·rintro w' ⟨s0, s1, s2⟩
       go_simp
       with_reducible rfl
      rotate_left
      ·simp only [Act.put, List.setIfInBounds_toArray, List.set_cons_zero, List.set_cons_succ, i64_w, i32_w]
       rfl
      refine pure_ (i := 5) (N := some 73) (v := ?_) (a' := ?_) #[true, false, true, true, false, true, false, false, false, false, false, false, false, false] rfl rfl (any_of HT_.out (by kernel_rfl)) (fun _ _ _ h => h) (Or.inl ⟨by rfl, ?_⟩) ?_ ?_
      rotate_left
      ·intro w'
       go_simp
       with_reducible rfl
      rotate_left
      ·simp only [Act.put, List.setIfInBounds_toArray, List.set_cons_zero, List.set_cons_succ, i64_w, i32_w]
       rfl
      refine take_ (i := 6) (N := some 74) (v := ?_) (a' := ?_) #[true, false, true, true, false, true, true, false, false, false, false, false, false, false] rfl rfl (take_ofW HT_.out HW_.out (by kernel_rfl)) (fun _ _ _ h => h) (Or.inl ⟨by rfl, ?_⟩) hHeld ?_ ?_
      rotate_left
      ·rintro w' ⟨s0, s1, s2⟩
       go_simp
       with_reducible rfl
      rotate_left
      ·simp only [Act.put, List.setIfInBounds_toArray, List.set_cons_zero, List.set_cons_succ, i64_w, i32_w]
       rfl
      refine pure_ (i := 7) (N := some 75) (v := ?_) (a' := ?_) #[true, false, true, true, false, true, true, true, false, false, false, false, false, false] rfl rfl (any_of HT_.out (by kernel_rfl)) (fun _ _ _ h => h) (Or.inl ⟨by rfl, ?_⟩) ?_ ?_
      rotate_left
      ·intro w'
       go_simp
       with_reducible rfl
      rotate_left
      ·simp only [Act.put, List.setIfInBounds_toArray, List.set_cons_zero, List.set_cons_succ, i64_w, i32_w]
       rfl
      refine take_ (i := 8) (N := some 76) (v := ?_) (a' := ?_) #[true, false, true, true, false, true, true, true, true, false, false, false, false, false] rfl rfl (take_ofW HT_.out HW_.out (by kernel_rfl)) (fun _ _ _ h => h) (Or.inl ⟨by rfl, ?_⟩) hHeld ?_ ?_
      rotate_left
      ·rintro w' ⟨s0, s1, s2⟩
       go_simp
       with_reducible rfl
      rotate_left
      ·simp only [Act.put, List.setIfInBounds_toArray, List.set_cons_zero, List.set_cons_succ, i64_w, i32_w]
       rfl
      refine pure_ (i := 9) (N := some 77) (v := ?_) (a' := ?_) #[true, false, true, true, false, true, true, true, true, true, false, false, false, false] rfl rfl (any_of HT_.out (by kernel_rfl)) (fun _ _ _ h => h) (Or.inl ⟨by rfl, ?_⟩) ?_ ?_
      rotate_left
      ·intro w'
       go_simp
       with_reducible rfl
      rotate_left
      ·simp only [Act.put, List.setIfInBounds_toArray, List.set_cons_zero, List.set_cons_succ, i64_w, i32_w]
       rfl
      have hv_ : w9.cell? ⟨bl, 1, none⟩ = some (.int .i64 a.la) := (blk_cell Bbl.out 1).trans rfl
      refine one_ (i := 1) (N := some 69) #[true, true, true, true, false, true, true, true, true, true, false, false, false, false] rfl rfl (one_of HT_.out (by kernel_rfl)) (by decide) (fun K hK => ?_)
      refine value_ (v := .int .i64 a.la) (w1 := w9) (by rfl) rfl ?_ ?_
      ·go_simp
      clear hv_
      refine hK.out _ _ ⟨(blk_cell Bbl.out 2).trans rfl, (blk_cell Bgx.out 1).trans rfl, (blk_cell Bgx.out 2).trans rfl⟩ (fun hHeld => ?_)
      clear hK K
      refine norm_ (a' := ?_) ?_ ?_
      rotate_left
      ·show Act.put _ (some 69) _ = _
       simp only [Act.put, List.setIfInBounds_toArray, List.set_cons_zero, List.set_cons_succ, i64_w, i32_w]
       rfl
      refine pure_ (i := 4) (N := some 72) (v := ?_) (a' := ?_) #[true, true, true, true, true, true, true, true, true, true, false, false, false, false] rfl rfl (any_of HT_.out (by kernel_rfl)) (fun _ _ _ h => h) (Or.inl ⟨by rfl, ?_⟩) ?_ ?_
      rotate_left
      ·intro w'
       go_simp
       with_reducible rfl
      rotate_left
      ·simp only [Act.put, List.setIfInBounds_toArray, List.set_cons_zero, List.set_cons_succ, i64_w, i32_w]
       rfl
      refine pure_ (i := 10) (N := some 78) (v := ?_) (a' := ?_) #[true, true, true, true, true, true, true, true, true, true, true, false, false, false] rfl rfl (any_of HT_.out (by kernel_rfl)) (fun _ _ _ h => h) (Or.inl ⟨by rfl, ?_⟩) ?_ ?_
      rotate_left
      ·intro w'
       go_simp
       with_reducible rfl
      rotate_left
      ·simp only [Act.put, List.setIfInBounds_toArray, List.set_cons_zero, List.set_cons_succ, i64_w, i32_w]
       rfl
      have hs_ : w9.cell? ⟨bl, 1, none⟩ = some (.int .i64 a.la) := (blk_cell Bbl.out 1).trans rfl
      have hfs_ := blk_frozen Bbl.out 1
      refine one_ (i := 11) (N := none) #[true, true, true, true, true, true, true, true, true, true, true, true, false, false] rfl rfl (one_of HT_.out (by kernel_rfl)) (by decide) (fun K hK => ?_)
      refine skip_ (w1 := ?_) (by rfl) rfl ?_ ?_
      rotate_left
      ·go_simp
       rfl
      clear hs_ hfs_
      have n_HB := Aside0.mk (show Below w.heap.size w (w9.setCell ⟨bl, 1, none⟩ (.int .i64 nbla)) from below_set HB.out Gbl.out)
      have n_1 := Aside0.mk (blk_put (cs' := #[.int .i64 x0.1, .int .i64 nbla, .int .i64 a.lc]) Bbl.out 1 (.int .i64 nbla) rfl)
      have n_2 := Aside0.mk (blk_far (p := ⟨bl, 1, none⟩) Bbm.out (Ne.symm Nlm.out) (.int .i64 nbla))
      have n_3 := Aside0.mk (blk_far (p := ⟨bl, 1, none⟩) Bgx.out (Ne.symm Nlx.out) (.int .i64 nbla))
      clear HB Bbl Bbm Bgx
      have HB := n_HB
      have Bbl := n_1
      have Bbm := n_2
      have Bgx := n_3
      clear n_HB n_1 n_2 n_3
      generalize (w9.setCell ⟨bl, 1, none⟩ (.int .i64 nbla)) = w9a at HB Bbl Bbm Bgx ⊢
      refine hK.out _ _ ⟨(blk_cell Bbl.out 2).trans rfl, (blk_cell Bgx.out 1).trans rfl, (blk_cell Bgx.out 2).trans rfl⟩ (fun hHeld => ?_)
      clear hK K
      refine pure_ (i := 12) (N := some 79) (v := ?_) (a' := ?_) #[true, true, true, true, true, true, true, true, true, true, true, true, true, false] rfl rfl (any_of HT_.out (by kernel_rfl)) (fun _ _ _ h => h) (Or.inl ⟨by rfl, ?_⟩) ?_ ?_
      rotate_left
      ·intro w'
       go_simp
       with_reducible rfl
      rotate_left
      ·simp only [Act.put, List.setIfInBounds_toArray, List.set_cons_zero, List.set_cons_succ, i64_w, i32_w]
       rfl
      have hs_ : w9a.cell? ⟨bl, 2, none⟩ = some (.int .i64 a.lc) := (blk_cell Bbl.out 2).trans rfl
      have hfs_ := blk_frozen Bbl.out 2
      refine last_ (i := 13) (N := none) #[true, true, true, true, true, true, true, true, true, true, true, true, true, true] rfl rfl (one_of HT_.out (by kernel_rfl)) (by decide) (fun K hK => ?_)
      refine skip_ (w1 := ?_) (by rfl) rfl ?_ ?_
      rotate_left
      ·go_simp
       rfl
      clear hs_ hfs_
      have n_HB := Aside0.mk (show Below w.heap.size w (w9a.setCell ⟨bl, 2, none⟩ (.int .i64 nblc)) from below_set HB.out Gbl.out)
      have n_1 := Aside0.mk (blk_put (cs' := #[.int .i64 x0.1, .int .i64 nbla, .int .i64 nblc]) Bbl.out 2 (.int .i64 nblc) rfl)
      have n_2 := Aside0.mk (blk_far (p := ⟨bl, 2, none⟩) Bbm.out (Ne.symm Nlm.out) (.int .i64 nblc))
      have n_3 := Aside0.mk (blk_far (p := ⟨bl, 2, none⟩) Bgx.out (Ne.symm Nlx.out) (.int .i64 nblc))
      clear HB Bbl Bbm Bgx
      have HB := n_HB
      have Bbl := n_1
      have Bbm := n_2
      have Bgx := n_3
      clear n_HB n_1 n_2 n_3
      generalize (w9a.setCell ⟨bl, 2, none⟩ (.int .i64 nblc)) = w9b at HB Bbl Bbm Bgx ⊢
      refine hK.out _ _ ?_
      clear hK K
      refine done_ (done_of HT_.out (by kernel_rfl)) ?_
      clear hHeld HT_ HW_
      try go_wp2
      obtain ⟨nbma, hnbma⟩ : ∃ y, (if a.ma < x.2.1 then x.2.1 else a.ma) = y := ⟨_, rfl⟩
      obtain ⟨nbmc, hnbmc⟩ : ∃ y, (if a.mc < x.2.2 then x.2.2 else a.mc) = y := ⟨_, rfl⟩
      have n_HB := Aside0.mk (below_step HB.out (below_drew (Below.refl _ _)))
      have n_Bbl := Aside0.mk (blk_below Bbl.out (below_drew (Below.refl _ _)))
      have n_Bbm := Aside0.mk (blk_below Bbm.out (below_drew (Below.refl _ _)))
      have n_Bgx := Aside0.mk (blk_below Bgx.out (below_drew (Below.refl _ _)))
      clear HB Bbl Bbm Bgx
      have HB := n_HB
      have Bbl := n_Bbl
      have Bbm := n_Bbm
      have Bgx := n_Bgx
      clear n_HB n_Bbl n_Bbm n_Bgx
      refine start_ (n := 14) (S := fun w' => w'.cell? ⟨bm, 2, none⟩ = some (.int .i64 a.mc) ∧ w'.cell? ⟨gx, 1, none⟩ = some (.int .i64 x.2.1) ∧ w'.cell? ⟨gx, 2, none⟩ = some (.int .i64 x.2.2)) (ds := [13]) #[false, false, false, false, false, false, false, false, false, false, false, false, false, false] (by kernel_rfl) rfl rfl ⟨(blk_cell Bbm.out 2).trans rfl, (blk_cell Bgx.out 1).trans rfl, (blk_cell Bgx.out 2).trans rfl⟩ (fun hHeld => ?_); refine with_tabW flywheelref26_cluster_result.tab15 flywheelref26_cluster_result.bits15 (fun HT_ HW_ => ?_)
      generalize World.drew w9b = w10 at HB Bbl Bbm Bgx hHeld ⊢
      refine pure_ (i := 0) (N := some 80) (v := ?_) (a' := ?_) #[true, false, false, false, false, false, false, false, false, false, false, false, false, false] rfl rfl (any_of HT_.out (by kernel_rfl)) (fun _ _ _ h => h) (Or.inl ⟨by rfl, ?_⟩) ?_ ?_
      rotate_left
      ·intro w'
       go_simp
       with_reducible rfl
      rotate_left
      ·simp only [Act.put, List.setIfInBounds_toArray, List.set_cons_zero, List.set_cons_succ, i64_w, i32_w]
       rfl
      refine pure_ (i := 2) (N := some 82) (v := ?_) (a' := ?_) #[true, false, true, false, false, false, false, false, false, false, false, false, false, false] rfl rfl (any_of HT_.out (by kernel_rfl)) (fun _ _ _ h => h) (Or.inl ⟨by rfl, ?_⟩) ?_ ?_
      rotate_left
      ·intro w'
       go_simp
       with_reducible rfl
      rotate_left
      ·simp only [Act.put, List.setIfInBounds_toArray, List.set_cons_zero, List.set_cons_succ, i64_w, i32_w]
       rfl
      refine take_ (i := 3) (N := some 83) (v := ?_) (a' := ?_) #[true, false, true, true, false, false, false, false, false, false, false, false, false, false] rfl rfl (take_ofW HT_.out HW_.out (by kernel_rfl)) (fun _ _ _ h => h) (Or.inl ⟨by rfl, ?_⟩) hHeld ?_ ?_
      rotate_left
      ·rintro w' ⟨s0, s1, s2⟩
       go_simp
       with_reducible rfl
      rotate_left
      ·simp only [Act.put, List.setIfInBounds_toArray, List.set_cons_zero, List.set_cons_succ, i64_w, i32_w]
       rfl
      refine pure_ (i := 5) (N := some 85) (v := ?_) (a' := ?_) #[true, false, true, true, false, true, false, false, false, false, false, false, false, false] rfl rfl (any_of HT_.out (by kernel_rfl)) (fun _ _ _ h => h) (Or.inl ⟨by rfl, ?_⟩) ?_ ?_
      rotate_left
      ·intro w'
       go_simp
       with_reducible rfl
      rotate_left
      ·simp only [Act.put, List.setIfInBounds_toArray, List.set_cons_zero, List.set_cons_succ, i64_w, i32_w]
       rfl
      refine take_ (i := 6) (N := some 86) (v := ?_) (a' := ?_) #[true, false, true, true, false, true, true, false, false, false, false, false, false, false] rfl rfl (take_ofW HT_.out HW_.out (by kernel_rfl)) (fun _ _ _ h => h) (Or.inl ⟨by rfl, ?_⟩) hHeld ?_ ?_
      rotate_left
      ·rintro w' ⟨s0, s1, s2⟩
       go_simp
       with_reducible rfl
      rotate_left
      ·simp only [Act.put, List.setIfInBounds_toArray, List.set_cons_zero, List.set_cons_succ, i64_w, i32_w]
       rfl
      refine pure_ (i := 7) (N := some 87) (v := ?_) (a' := ?_) #[true, false, true, true, false, true, true, true, false, false, false, false, false, false] rfl rfl (any_of HT_.out (by kernel_rfl)) (fun _ _ _ h => h) (Or.inl ⟨by rfl, ?_⟩) ?_ ?_
      rotate_left
      ·intro w'
       go_simp
       with_reducible rfl
      rotate_left
      ·simp only [Act.put, List.setIfInBounds_toArray, List.set_cons_zero, List.set_cons_succ, i64_w, i32_w]
       rfl
      refine take_ (i := 8) (N := some 88) (v := ?_) (a' := ?_) #[true, false, true, true, false, true, true, true, true, false, false, false, false, false] rfl rfl (take_ofW HT_.out HW_.out (by kernel_rfl)) (fun _ _ _ h => h) (Or.inl ⟨by rfl, ?_⟩) hHeld ?_ ?_
      rotate_left
      ·rintro w' ⟨s0, s1, s2⟩
       go_simp
       with_reducible rfl
      rotate_left
      ·simp only [Act.put, List.setIfInBounds_toArray, List.set_cons_zero, List.set_cons_succ, i64_w, i32_w]
       rfl
      refine pure_ (i := 9) (N := some 89) (v := ?_) (a' := ?_) #[true, false, true, true, false, true, true, true, true, true, false, false, false, false] rfl rfl (any_of HT_.out (by kernel_rfl)) (fun _ _ _ h => h) (Or.inl ⟨by rfl, ?_⟩) ?_ ?_
      rotate_left
      ·intro w'
       go_simp
       with_reducible rfl
      rotate_left
      ·simp only [Act.put, List.setIfInBounds_toArray, List.set_cons_zero, List.set_cons_succ, i64_w, i32_w]
       rfl
      have hv_ : w10.cell? ⟨bm, 1, none⟩ = some (.int .i64 a.ma) := (blk_cell Bbm.out 1).trans rfl
      refine one_ (i := 1) (N := some 81) #[true, true, true, true, false, true, true, true, true, true, false, false, false, false] rfl rfl (one_of HT_.out (by kernel_rfl)) (by decide) (fun K hK => ?_)
      refine value_ (v := .int .i64 a.ma) (w1 := w10) (by rfl) rfl ?_ ?_
      ·go_simp
      clear hv_
      refine hK.out _ _ ⟨(blk_cell Bbm.out 2).trans rfl, (blk_cell Bgx.out 1).trans rfl, (blk_cell Bgx.out 2).trans rfl⟩ (fun hHeld => ?_)
      clear hK K
      refine norm_ (a' := ?_) ?_ ?_
      rotate_left
      ·show Act.put _ (some 81) _ = _
       simp only [Act.put, List.setIfInBounds_toArray, List.set_cons_zero, List.set_cons_succ, i64_w, i32_w]
       rfl
      refine pure_ (i := 4) (N := some 84) (v := ?_) (a' := ?_) #[true, true, true, true, true, true, true, true, true, true, false, false, false, false] rfl rfl (any_of HT_.out (by kernel_rfl)) (fun _ _ _ h => h) (Or.inl ⟨by rfl, ?_⟩) ?_ ?_
      rotate_left
      ·intro w'
       go_simp
       with_reducible rfl
      rotate_left
      ·simp only [Act.put, List.setIfInBounds_toArray, List.set_cons_zero, List.set_cons_succ, i64_w, i32_w]
       rfl
      refine pure_ (i := 10) (N := some 90) (v := ?_) (a' := ?_) #[true, true, true, true, true, true, true, true, true, true, true, false, false, false] rfl rfl (any_of HT_.out (by kernel_rfl)) (fun _ _ _ h => h) (Or.inl ⟨by rfl, ?_⟩) ?_ ?_
      rotate_left
      ·intro w'
       go_simp
       with_reducible rfl
      rotate_left
      ·simp only [Act.put, List.setIfInBounds_toArray, List.set_cons_zero, List.set_cons_succ, i64_w, i32_w]
       rfl
      have hs_ : w10.cell? ⟨bm, 1, none⟩ = some (.int .i64 a.ma) := (blk_cell Bbm.out 1).trans rfl
      have hfs_ := blk_frozen Bbm.out 1
      refine one_ (i := 11) (N := none) #[true, true, true, true, true, true, true, true, true, true, true, true, false, false] rfl rfl (one_of HT_.out (by kernel_rfl)) (by decide) (fun K hK => ?_)
      refine skip_ (w1 := ?_) (by rfl) rfl ?_ ?_
      rotate_left
      ·go_simp
       rfl
      clear hs_ hfs_
      have n_HB := Aside0.mk (show Below w.heap.size w (w10.setCell ⟨bm, 1, none⟩ (.int .i64 nbma)) from below_set HB.out Gbm.out)
      have n_1 := Aside0.mk (blk_put (cs' := #[.int .i64 x0.1, .int .i64 nbma, .int .i64 a.mc]) Bbm.out 1 (.int .i64 nbma) rfl)
      have n_2 := Aside0.mk (blk_far (p := ⟨bm, 1, none⟩) Bbl.out Nlm.out (.int .i64 nbma))
      have n_3 := Aside0.mk (blk_far (p := ⟨bm, 1, none⟩) Bgx.out (Ne.symm Nmx.out) (.int .i64 nbma))
      clear HB Bbm Bbl Bgx
      have HB := n_HB
      have Bbm := n_1
      have Bbl := n_2
      have Bgx := n_3
      clear n_HB n_1 n_2 n_3
      generalize (w10.setCell ⟨bm, 1, none⟩ (.int .i64 nbma)) = w10a at HB Bbm Bbl Bgx ⊢
      refine hK.out _ _ ⟨(blk_cell Bbm.out 2).trans rfl, (blk_cell Bgx.out 1).trans rfl, (blk_cell Bgx.out 2).trans rfl⟩ (fun hHeld => ?_)
      clear hK K
      refine pure_ (i := 12) (N := some 91) (v := ?_) (a' := ?_) #[true, true, true, true, true, true, true, true, true, true, true, true, true, false] rfl rfl (any_of HT_.out (by kernel_rfl)) (fun _ _ _ h => h) (Or.inl ⟨by rfl, ?_⟩) ?_ ?_
      rotate_left
      ·intro w'
       go_simp
       with_reducible rfl
      rotate_left
      ·simp only [Act.put, List.setIfInBounds_toArray, List.set_cons_zero, List.set_cons_succ, i64_w, i32_w]
       rfl
      have hs_ : w10a.cell? ⟨bm, 2, none⟩ = some (.int .i64 a.mc) := (blk_cell Bbm.out 2).trans rfl
      have hfs_ := blk_frozen Bbm.out 2
      refine last_ (i := 13) (N := none) #[true, true, true, true, true, true, true, true, true, true, true, true, true, true] rfl rfl (one_of HT_.out (by kernel_rfl)) (by decide) (fun K hK => ?_)
      refine skip_ (w1 := ?_) (by rfl) rfl ?_ ?_
      rotate_left
      ·go_simp
       rfl
      clear hs_ hfs_
      have n_HB := Aside0.mk (show Below w.heap.size w (w10a.setCell ⟨bm, 2, none⟩ (.int .i64 nbmc)) from below_set HB.out Gbm.out)
      have n_1 := Aside0.mk (blk_put (cs' := #[.int .i64 x0.1, .int .i64 nbma, .int .i64 nbmc]) Bbm.out 2 (.int .i64 nbmc) rfl)
      have n_2 := Aside0.mk (blk_far (p := ⟨bm, 2, none⟩) Bbl.out Nlm.out (.int .i64 nbmc))
      have n_3 := Aside0.mk (blk_far (p := ⟨bm, 2, none⟩) Bgx.out (Ne.symm Nmx.out) (.int .i64 nbmc))
      clear HB Bbm Bbl Bgx
      have HB := n_HB
      have Bbm := n_1
      have Bbl := n_2
      have Bgx := n_3
      clear n_HB n_1 n_2 n_3
      generalize (w10a.setCell ⟨bm, 2, none⟩ (.int .i64 nbmc)) = w10b at HB Bbm Bbl Bgx ⊢
      refine hK.out _ _ ?_
      clear hK K
      refine done_ (done_of HT_.out (by kernel_rfl)) ?_
      clear hHeld HT_ HW_
      try go_wp2
      go_roundg k1
      case measure => omega
      case rel =>
       have hw : wrap64 (i + 1) = i + 1 := by have := HI.out; have := HN.out; have := HL.out; unfold wrap64; omega
       have e1 : (RA.step a x).la = nbla := hnbla
       have e2 : (RA.step a x).lc = nblc := hnblc
       have e3 : (RA.step a x).ma = nbma := hnbma
       have e4 : (RA.step a x).mc = nbmc := hnbmc
       have e5 : (RA.step a x).lst = x := if_pos C1.out
       have e6 : (RA.step a x).fst = a.fst := if_neg (by have := C2.out; omega)
       have h7 := HR.out
       have h8 := HI.out
       exact ⟨i + 1, i, fi, RA.step a x, rfl, rfl, rfl, by rw [hw], ⟨by omega, by omega, h8, h7.2.2.2.1, by rw [e5]; exact HX.out, by rw [e6]; exact h7.2.2.2.2.2.1, fold_next h8.1 HX.out h7.2.2.2.2.2.2⟩, HB, ⟨by rw [e1, e2]; exact Bbl.out⟩, ⟨by rw [e3, e4]; exact Bbm.out⟩⟩
    ·by_cases c2 : x.2.2 < a.fst.2.2
     ·have c1b : decide (a.lst.2.1 ≤ x.2.1) = false := decide_eq_false c1
      have c2b : decide (x.2.2 < a.fst.2.2) = true := decide_eq_true c2
      have C1 := Aside0.mk c1
      have C2 := Aside0.mk c2
      clear c1 c2
      go_upto_region 10 with (first | fail)
      go_quiet (fail)
      go_upto_region 12 with (first | fail)
      go_quiet (fail)
      go_upto_region 14 with (first | fail)
      refine namedR_ (fun w8 hw8 => ?_)
      have n_HB := Aside0.mk (show Below w.heap.size w w8 from by rw [hw8]; repeat (first | exact HB.out | apply pw_below_drewN | apply below_drew1))
      have n_Bbl := Aside0.mk (show w8.heap[bl]? = some (.cells #[.int .i64 x0.1, .int .i64 a.la, .int .i64 a.lc] 57 (0, 0)) from by rw [hw8]; (with_reducible repeat (first | refine blk_drewN ?_ _ | refine blk_drew ?_)); exact Bbl.out)
      have n_Bbm := Aside0.mk (show w8.heap[bm]? = some (.cells #[.int .i64 x0.1, .int .i64 a.ma, .int .i64 a.mc] 57 (0, 0)) from by rw [hw8]; (with_reducible repeat (first | refine blk_drewN ?_ _ | refine blk_drew ?_)); exact Bbm.out)
      have n_Bgx := Aside0.mk (show w8.heap[gx]? = some (.cells #[.int .i64 x.1, .int .i64 x.2.1, .int .i64 x.2.2] 57 (0, 0)) from by rw [hw8]; (with_reducible repeat (first | refine blk_drewN ?_ _ | refine blk_drew ?_)); exact Bgx.out)
      clear HB Bbl Bbm Bgx hw8 hg3 hbc_0 hbc_1 hbc_2 hl0 hl1 hl2 hf0 hf1 hf2 pl ql pf qf hib c1b c2b
      have HB := n_HB
      have Bbl := n_Bbl
      have Bbm := n_Bbm
      have Bgx := n_Bgx
      clear n_HB n_Bbl n_Bbm n_Bgx
      obtain ⟨nbla, hnbla⟩ : ∃ y, (if x.2.1 < a.la then x.2.1 else a.la) = y := ⟨_, rfl⟩
      obtain ⟨nblc, hnblc⟩ : ∃ y, (if x.2.2 < a.lc then x.2.2 else a.lc) = y := ⟨_, rfl⟩
      have n_HB := Aside0.mk (below_step HB.out (below_drew (Below.refl _ _)))
      have n_Bbl := Aside0.mk (blk_below Bbl.out (below_drew (Below.refl _ _)))
      have n_Bbm := Aside0.mk (blk_below Bbm.out (below_drew (Below.refl _ _)))
      have n_Bgx := Aside0.mk (blk_below Bgx.out (below_drew (Below.refl _ _)))
      clear HB Bbl Bbm Bgx
      have HB := n_HB
      have Bbl := n_Bbl
      have Bbm := n_Bbm
      have Bgx := n_Bgx
      clear n_HB n_Bbl n_Bbm n_Bgx
      refine start_ (n := 14) (S := fun w' => w'.cell? ⟨bl, 2, none⟩ = some (.int .i64 a.lc) ∧ w'.cell? ⟨gx, 1, none⟩ = some (.int .i64 x.2.1) ∧ w'.cell? ⟨gx, 2, none⟩ = some (.int .i64 x.2.2)) (ds := [13]) #[false, false, false, false, false, false, false, false, false, false, false, false, false, false] (by kernel_rfl) rfl rfl ⟨(blk_cell Bbl.out 2).trans rfl, (blk_cell Bgx.out 1).trans rfl, (blk_cell Bgx.out 2).trans rfl⟩ (fun hHeld => ?_); refine with_tabW flywheelref26_cluster_result.tab14 flywheelref26_cluster_result.bits14 (fun HT_ HW_ => ?_)
      generalize World.drew w8 = w9 at HB Bbl Bbm Bgx hHeld ⊢
      refine pure_ (i := 0) (N := some 68) (v := ?_) (a' := ?_) #[true, false, false, false, false, false, false, false, false, false, false, false, false, false] rfl rfl (any_of HT_.out (by kernel_rfl)) (fun _ _ _ h => h) (Or.inl ⟨by rfl, ?_⟩) ?_ ?_
      rotate_left
      ·intro w'
       go_simp
       with_reducible rfl
      rotate_left
      ·simp only [Act.put, List.setIfInBounds_toArray, List.set_cons_zero, List.set_cons_succ, i64_w, i32_w]
       rfl
      refine pure_ (i := 2) (N := some 70) (v := ?_) (a' := ?_) #[true, false, true, false, false, false, false, false, false, false, false, false, false, false] rfl rfl (any_of HT_.out (by kernel_rfl)) (fun _ _ _ h => h) (Or.inl ⟨by rfl, ?_⟩) ?_ ?_
      rotate_left
      ·intro w'
       go_simp
       with_reducible rfl
      rotate_left
      ·simp only [Act.put, List.setIfInBounds_toArray, List.set_cons_zero, List.set_cons_succ, i64_w, i32_w]
       rfl
      refine take_ (i := 3) (N := some 71) (v := ?_) (a' := ?_) #[true, false, true, true, false, false, false, false, false, false, false, false, false, false] rfl rfl (take_ofW HT_.out HW_.out (by kernel_rfl)) (fun _ _ _ h => h) (Or.inl ⟨by rfl, ?_⟩) hHeld ?_ ?_
      rotate_left
      ·rintro w' ⟨s0, s1, s2⟩
       go_simp
       with_reducible rfl
      rotate_left
      ·simp only [Act.put, List.setIfInBounds_toArray, List.set_cons_zero, List.set_cons_succ, i64_w, i32_w]
       rfl
      refine pure_ (i := 5) (N := some 73) (v := ?_) (a' := ?_) #[true, false, true, true, false, true, false, false, false, false, false, false, false, false] rfl rfl (any_of HT_.out (by kernel_rfl)) (fun _ _ _ h => h) (Or.inl ⟨by rfl, ?_⟩) ?_ ?_
      rotate_left
      ·intro w'
       go_simp
       with_reducible rfl
      rotate_left
      ·simp only [Act.put, List.setIfInBounds_toArray, List.set_cons_zero, List.set_cons_succ, i64_w, i32_w]
       rfl
      refine take_ (i := 6) (N := some 74) (v := ?_) (a' := ?_) #[true, false, true, true, false, true, true, false, false, false, false, false, false, false] rfl rfl (take_ofW HT_.out HW_.out (by kernel_rfl)) (fun _ _ _ h => h) (Or.inl ⟨by rfl, ?_⟩) hHeld ?_ ?_
      rotate_left
      ·rintro w' ⟨s0, s1, s2⟩
       go_simp
       with_reducible rfl
      rotate_left
      ·simp only [Act.put, List.setIfInBounds_toArray, List.set_cons_zero, List.set_cons_succ, i64_w, i32_w]
       rfl
      refine pure_ (i := 7) (N := some 75) (v := ?_) (a' := ?_) #[true, false, true, true, false, true, true, true, false, false, false, false, false, false] rfl rfl (any_of HT_.out (by kernel_rfl)) (fun _ _ _ h => h) (Or.inl ⟨by rfl, ?_⟩) ?_ ?_
      rotate_left
      ·intro w'
       go_simp
       with_reducible rfl
      rotate_left
      ·simp only [Act.put, List.setIfInBounds_toArray, List.set_cons_zero, List.set_cons_succ, i64_w, i32_w]
       rfl
      refine take_ (i := 8) (N := some 76) (v := ?_) (a' := ?_) #[true, false, true, true, false, true, true, true, true, false, false, false, false, false] rfl rfl (take_ofW HT_.out HW_.out (by kernel_rfl)) (fun _ _ _ h => h) (Or.inl ⟨by rfl, ?_⟩) hHeld ?_ ?_
      rotate_left
      ·rintro w' ⟨s0, s1, s2⟩
       go_simp
       with_reducible rfl
      rotate_left
      ·simp only [Act.put, List.setIfInBounds_toArray, List.set_cons_zero, List.set_cons_succ, i64_w, i32_w]
       rfl
      refine pure_ (i := 9) (N := some 77) (v := ?_) (a' := ?_) #[true, false, true, true, false, true, true, true, true, true, false, false, false, false] rfl rfl (any_of HT_.out (by kernel_rfl)) (fun _ _ _ h => h) (Or.inl ⟨by rfl, ?_⟩) ?_ ?_
      rotate_left
      ·intro w'
       go_simp
       with_reducible rfl
      rotate_left
      ·simp only [Act.put, List.setIfInBounds_toArray, List.set_cons_zero, List.set_cons_succ, i64_w, i32_w]
       rfl
      have hv_ : w9.cell? ⟨bl, 1, none⟩ = some (.int .i64 a.la) := (blk_cell Bbl.out 1).trans rfl
      refine one_ (i := 1) (N := some 69) #[true, true, true, true, false, true, true, true, true, true, false, false, false, false] rfl rfl (one_of HT_.out (by kernel_rfl)) (by decide) (fun K hK => ?_)
      refine value_ (v := .int .i64 a.la) (w1 := w9) (by rfl) rfl ?_ ?_
      ·go_simp
      clear hv_
      refine hK.out _ _ ⟨(blk_cell Bbl.out 2).trans rfl, (blk_cell Bgx.out 1).trans rfl, (blk_cell Bgx.out 2).trans rfl⟩ (fun hHeld => ?_)
      clear hK K
      refine norm_ (a' := ?_) ?_ ?_
      rotate_left
      ·show Act.put _ (some 69) _ = _
       simp only [Act.put, List.setIfInBounds_toArray, List.set_cons_zero, List.set_cons_succ, i64_w, i32_w]
       rfl
      refine pure_ (i := 4) (N := some 72) (v := ?_) (a' := ?_) #[true, true, true, true, true, true, true, true, true, true, false, false, false, false] rfl rfl (any_of HT_.out (by kernel_rfl)) (fun _ _ _ h => h) (Or.inl ⟨by rfl, ?_⟩) ?_ ?_
      rotate_left
      ·intro w'
       go_simp
       with_reducible rfl
      rotate_left
      ·simp only [Act.put, List.setIfInBounds_toArray, List.set_cons_zero, List.set_cons_succ, i64_w, i32_w]
       rfl
      refine pure_ (i := 10) (N := some 78) (v := ?_) (a' := ?_) #[true, true, true, true, true, true, true, true, true, true, true, false, false, false] rfl rfl (any_of HT_.out (by kernel_rfl)) (fun _ _ _ h => h) (Or.inl ⟨by rfl, ?_⟩) ?_ ?_
      rotate_left
      ·intro w'
       go_simp
       with_reducible rfl
      rotate_left
      ·simp only [Act.put, List.setIfInBounds_toArray, List.set_cons_zero, List.set_cons_succ, i64_w, i32_w]
       rfl
      have hs_ : w9.cell? ⟨bl, 1, none⟩ = some (.int .i64 a.la) := (blk_cell Bbl.out 1).trans rfl
      have hfs_ := blk_frozen Bbl.out 1
      refine one_ (i := 11) (N := none) #[true, true, true, true, true, true, true, true, true, true, true, true, false, false] rfl rfl (one_of HT_.out (by kernel_rfl)) (by decide) (fun K hK => ?_)
      refine skip_ (w1 := ?_) (by rfl) rfl ?_ ?_
      rotate_left
      ·go_simp
       rfl
      clear hs_ hfs_
      have n_HB := Aside0.mk (show Below w.heap.size w (w9.setCell ⟨bl, 1, none⟩ (.int .i64 nbla)) from below_set HB.out Gbl.out)
      have n_1 := Aside0.mk (blk_put (cs' := #[.int .i64 x0.1, .int .i64 nbla, .int .i64 a.lc]) Bbl.out 1 (.int .i64 nbla) rfl)
      have n_2 := Aside0.mk (blk_far (p := ⟨bl, 1, none⟩) Bbm.out (Ne.symm Nlm.out) (.int .i64 nbla))
      have n_3 := Aside0.mk (blk_far (p := ⟨bl, 1, none⟩) Bgx.out (Ne.symm Nlx.out) (.int .i64 nbla))
      clear HB Bbl Bbm Bgx
      have HB := n_HB
      have Bbl := n_1
      have Bbm := n_2
      have Bgx := n_3
      clear n_HB n_1 n_2 n_3
      generalize (w9.setCell ⟨bl, 1, none⟩ (.int .i64 nbla)) = w9a at HB Bbl Bbm Bgx ⊢
      refine hK.out _ _ ⟨(blk_cell Bbl.out 2).trans rfl, (blk_cell Bgx.out 1).trans rfl, (blk_cell Bgx.out 2).trans rfl⟩ (fun hHeld => ?_)
      clear hK K
      refine pure_ (i := 12) (N := some 79) (v := ?_) (a' := ?_) #[true, true, true, true, true, true, true, true, true, true, true, true, true, false] rfl rfl (any_of HT_.out (by kernel_rfl)) (fun _ _ _ h => h) (Or.inl ⟨by rfl, ?_⟩) ?_ ?_
      rotate_left
      ·intro w'
       go_simp
       with_reducible rfl
      rotate_left
      ·simp only [Act.put, List.setIfInBounds_toArray, List.set_cons_zero, List.set_cons_succ, i64_w, i32_w]
       rfl
      have hs_ : w9a.cell? ⟨bl, 2, none⟩ = some (.int .i64 a.lc) := (blk_cell Bbl.out 2).trans rfl
      have hfs_ := blk_frozen Bbl.out 2
      refine last_ (i := 13) (N := none) #[true, true, true, true, true, true, true, true, true, true, true, true, true, true] rfl rfl (one_of HT_.out (by kernel_rfl)) (by decide) (fun K hK => ?_)
      refine skip_ (w1 := ?_) (by rfl) rfl ?_ ?_
      rotate_left
      ·go_simp
       rfl
      clear hs_ hfs_
      have n_HB := Aside0.mk (show Below w.heap.size w (w9a.setCell ⟨bl, 2, none⟩ (.int .i64 nblc)) from below_set HB.out Gbl.out)
      have n_1 := Aside0.mk (blk_put (cs' := #[.int .i64 x0.1, .int .i64 nbla, .int .i64 nblc]) Bbl.out 2 (.int .i64 nblc) rfl)
      have n_2 := Aside0.mk (blk_far (p := ⟨bl, 2, none⟩) Bbm.out (Ne.symm Nlm.out) (.int .i64 nblc))
      have n_3 := Aside0.mk (blk_far (p := ⟨bl, 2, none⟩) Bgx.out (Ne.symm Nlx.out) (.int .i64 nblc))
      clear HB Bbl Bbm Bgx
      have HB := n_HB
      have Bbl := n_1
      have Bbm := n_2
      have Bgx := n_3
      clear n_HB n_1 n_2 n_3
      generalize (w9a.setCell ⟨bl, 2, none⟩ (.int .i64 nblc)) = w9b at HB Bbl Bbm Bgx ⊢
      refine hK.out _ _ ?_
      clear hK K
      refine done_ (done_of HT_.out (by kernel_rfl)) ?_
      clear hHeld HT_ HW_
      try go_wp2
      obtain ⟨nbma, hnbma⟩ : ∃ y, (if a.ma < x.2.1 then x.2.1 else a.ma) = y := ⟨_, rfl⟩
      obtain ⟨nbmc, hnbmc⟩ : ∃ y, (if a.mc < x.2.2 then x.2.2 else a.mc) = y := ⟨_, rfl⟩
      have n_HB := Aside0.mk (below_step HB.out (below_drew (Below.refl _ _)))
      have n_Bbl := Aside0.mk (blk_below Bbl.out (below_drew (Below.refl _ _)))
      have n_Bbm := Aside0.mk (blk_below Bbm.out (below_drew (Below.refl _ _)))
      have n_Bgx := Aside0.mk (blk_below Bgx.out (below_drew (Below.refl _ _)))
      clear HB Bbl Bbm Bgx
      have HB := n_HB
      have Bbl := n_Bbl
      have Bbm := n_Bbm
      have Bgx := n_Bgx
      clear n_HB n_Bbl n_Bbm n_Bgx
      refine start_ (n := 14) (S := fun w' => w'.cell? ⟨bm, 2, none⟩ = some (.int .i64 a.mc) ∧ w'.cell? ⟨gx, 1, none⟩ = some (.int .i64 x.2.1) ∧ w'.cell? ⟨gx, 2, none⟩ = some (.int .i64 x.2.2)) (ds := [13]) #[false, false, false, false, false, false, false, false, false, false, false, false, false, false] (by kernel_rfl) rfl rfl ⟨(blk_cell Bbm.out 2).trans rfl, (blk_cell Bgx.out 1).trans rfl, (blk_cell Bgx.out 2).trans rfl⟩ (fun hHeld => ?_); refine with_tabW flywheelref26_cluster_result.tab15 flywheelref26_cluster_result.bits15 (fun HT_ HW_ => ?_)
      generalize World.drew w9b = w10 at HB Bbl Bbm Bgx hHeld ⊢
      refine pure_ (i := 0) (N := some 80) (v := ?_) (a' := ?_) #[true, false, false, false, false, false, false, false, false, false, false, false, false, false] rfl rfl (any_of HT_.out (by kernel_rfl)) (fun _ _ _ h => h) (Or.inl ⟨by rfl, ?_⟩) ?_ ?_
      rotate_left
      ·intro w'
       go_simp
       with_reducible rfl
      rotate_left
      ·simp only [Act.put, List.setIfInBounds_toArray, List.set_cons_zero, List.set_cons_succ, i64_w, i32_w]
       rfl
      refine pure_ (i := 2) (N := some 82) (v := ?_) (a' := ?_) #[true, false, true, false, false, false, false, false, false, false, false, false, false, false] rfl rfl (any_of HT_.out (by kernel_rfl)) (fun _ _ _ h => h) (Or.inl ⟨by rfl, ?_⟩) ?_ ?_
      rotate_left
      ·intro w'
       go_simp
       with_reducible rfl
      rotate_left
      ·simp only [Act.put, List.setIfInBounds_toArray, List.set_cons_zero, List.set_cons_succ, i64_w, i32_w]
       rfl
      refine take_ (i := 3) (N := some 83) (v := ?_) (a' := ?_) #[true, false, true, true, false, false, false, false, false, false, false, false, false, false] rfl rfl (take_ofW HT_.out HW_.out (by kernel_rfl)) (fun _ _ _ h => h) (Or.inl ⟨by rfl, ?_⟩) hHeld ?_ ?_
      rotate_left
      ·rintro w' ⟨s0, s1, s2⟩
       go_simp
       with_reducible rfl
      rotate_left
      ·simp only [Act.put, List.setIfInBounds_toArray, List.set_cons_zero, List.set_cons_succ, i64_w, i32_w]
       rfl
      refine pure_ (i := 5) (N := some 85) (v := ?_) (a' := ?_) #[true, false, true, true, false, true, false, false, false, false, false, false, false, false] rfl rfl (any_of HT_.out (by kernel_rfl)) (fun _ _ _ h => h) (Or.inl ⟨by rfl, ?_⟩) ?_ ?_
      rotate_left
      ·intro w'
       go_simp
       with_reducible rfl
      rotate_left
      ·simp only [Act.put, List.setIfInBounds_toArray, List.set_cons_zero, List.set_cons_succ, i64_w, i32_w]
       rfl
      refine take_ (i := 6) (N := some 86) (v := ?_) (a' := ?_) #[true, false, true, true, false, true, true, false, false, false, false, false, false, false] rfl rfl (take_ofW HT_.out HW_.out (by kernel_rfl)) (fun _ _ _ h => h) (Or.inl ⟨by rfl, ?_⟩) hHeld ?_ ?_
      rotate_left
      ·rintro w' ⟨s0, s1, s2⟩
       go_simp
       with_reducible rfl
      rotate_left
      ·simp only [Act.put, List.setIfInBounds_toArray, List.set_cons_zero, List.set_cons_succ, i64_w, i32_w]
       rfl
      refine pure_ (i := 7) (N := some 87) (v := ?_) (a' := ?_) #[true, false, true, true, false, true, true, true, false, false, false, false, false, false] rfl rfl (any_of HT_.out (by kernel_rfl)) (fun _ _ _ h => h) (Or.inl ⟨by rfl, ?_⟩) ?_ ?_
      rotate_left
      ·intro w'
       go_simp
       with_reducible rfl
      rotate_left
      ·simp only [Act.put, List.setIfInBounds_toArray, List.set_cons_zero, List.set_cons_succ, i64_w, i32_w]
       rfl
      refine take_ (i := 8) (N := some 88) (v := ?_) (a' := ?_) #[true, false, true, true, false, true, true, true, true, false, false, false, false, false] rfl rfl (take_ofW HT_.out HW_.out (by kernel_rfl)) (fun _ _ _ h => h) (Or.inl ⟨by rfl, ?_⟩) hHeld ?_ ?_
      rotate_left
      ·rintro w' ⟨s0, s1, s2⟩
       go_simp
       with_reducible rfl
      rotate_left
      ·simp only [Act.put, List.setIfInBounds_toArray, List.set_cons_zero, List.set_cons_succ, i64_w, i32_w]
       rfl
      refine pure_ (i := 9) (N := some 89) (v := ?_) (a' := ?_) #[true, false, true, true, false, true, true, true, true, true, false, false, false, false] rfl rfl (any_of HT_.out (by kernel_rfl)) (fun _ _ _ h => h) (Or.inl ⟨by rfl, ?_⟩) ?_ ?_
      rotate_left
      ·intro w'
       go_simp
       with_reducible rfl
      rotate_left
      ·simp only [Act.put, List.setIfInBounds_toArray, List.set_cons_zero, List.set_cons_succ, i64_w, i32_w]
       rfl
      have hv_ : w10.cell? ⟨bm, 1, none⟩ = some (.int .i64 a.ma) := (blk_cell Bbm.out 1).trans rfl
      refine one_ (i := 1) (N := some 81) #[true, true, true, true, false, true, true, true, true, true, false, false, false, false] rfl rfl (one_of HT_.out (by kernel_rfl)) (by decide) (fun K hK => ?_)
      refine value_ (v := .int .i64 a.ma) (w1 := w10) (by rfl) rfl ?_ ?_
      ·go_simp
      clear hv_
      refine hK.out _ _ ⟨(blk_cell Bbm.out 2).trans rfl, (blk_cell Bgx.out 1).trans rfl, (blk_cell Bgx.out 2).trans rfl⟩ (fun hHeld => ?_)
      clear hK K
      refine norm_ (a' := ?_) ?_ ?_
      rotate_left
      ·show Act.put _ (some 81) _ = _
       simp only [Act.put, List.setIfInBounds_toArray, List.set_cons_zero, List.set_cons_succ, i64_w, i32_w]
       rfl
      refine pure_ (i := 4) (N := some 84) (v := ?_) (a' := ?_) #[true, true, true, true, true, true, true, true, true, true, false, false, false, false] rfl rfl (any_of HT_.out (by kernel_rfl)) (fun _ _ _ h => h) (Or.inl ⟨by rfl, ?_⟩) ?_ ?_
      rotate_left
      ·intro w'
       go_simp
       with_reducible rfl
      rotate_left
      ·simp only [Act.put, List.setIfInBounds_toArray, List.set_cons_zero, List.set_cons_succ, i64_w, i32_w]
       rfl
      refine pure_ (i := 10) (N := some 90) (v := ?_) (a' := ?_) #[true, true, true, true, true, true, true, true, true, true, true, false, false, false] rfl rfl (any_of HT_.out (by kernel_rfl)) (fun _ _ _ h => h) (Or.inl ⟨by rfl, ?_⟩) ?_ ?_
      rotate_left
      ·intro w'
       go_simp
       with_reducible rfl
      rotate_left
      ·simp only [Act.put, List.setIfInBounds_toArray, List.set_cons_zero, List.set_cons_succ, i64_w, i32_w]
       rfl
      have hs_ : w10.cell? ⟨bm, 1, none⟩ = some (.int .i64 a.ma) := (blk_cell Bbm.out 1).trans rfl
      have hfs_ := blk_frozen Bbm.out 1
      refine one_ (i := 11) (N := none) #[true, true, true, true, true, true, true, true, true, true, true, true, false, false] rfl rfl (one_of HT_.out (by kernel_rfl)) (by decide) (fun K hK => ?_)
      refine skip_ (w1 := ?_) (by rfl) rfl ?_ ?_
      rotate_left
      ·go_simp
       rfl
      clear hs_ hfs_
      have n_HB := Aside0.mk (show Below w.heap.size w (w10.setCell ⟨bm, 1, none⟩ (.int .i64 nbma)) from below_set HB.out Gbm.out)
      have n_1 := Aside0.mk (blk_put (cs' := #[.int .i64 x0.1, .int .i64 nbma, .int .i64 a.mc]) Bbm.out 1 (.int .i64 nbma) rfl)
      have n_2 := Aside0.mk (blk_far (p := ⟨bm, 1, none⟩) Bbl.out Nlm.out (.int .i64 nbma))
      have n_3 := Aside0.mk (blk_far (p := ⟨bm, 1, none⟩) Bgx.out (Ne.symm Nmx.out) (.int .i64 nbma))
      clear HB Bbm Bbl Bgx
      have HB := n_HB
      have Bbm := n_1
      have Bbl := n_2
      have Bgx := n_3
      clear n_HB n_1 n_2 n_3
      generalize (w10.setCell ⟨bm, 1, none⟩ (.int .i64 nbma)) = w10a at HB Bbm Bbl Bgx ⊢
      refine hK.out _ _ ⟨(blk_cell Bbm.out 2).trans rfl, (blk_cell Bgx.out 1).trans rfl, (blk_cell Bgx.out 2).trans rfl⟩ (fun hHeld => ?_)
      clear hK K
      refine pure_ (i := 12) (N := some 91) (v := ?_) (a' := ?_) #[true, true, true, true, true, true, true, true, true, true, true, true, true, false] rfl rfl (any_of HT_.out (by kernel_rfl)) (fun _ _ _ h => h) (Or.inl ⟨by rfl, ?_⟩) ?_ ?_
      rotate_left
      ·intro w'
       go_simp
       with_reducible rfl
      rotate_left
      ·simp only [Act.put, List.setIfInBounds_toArray, List.set_cons_zero, List.set_cons_succ, i64_w, i32_w]
       rfl
      have hs_ : w10a.cell? ⟨bm, 2, none⟩ = some (.int .i64 a.mc) := (blk_cell Bbm.out 2).trans rfl
      have hfs_ := blk_frozen Bbm.out 2
      refine last_ (i := 13) (N := none) #[true, true, true, true, true, true, true, true, true, true, true, true, true, true] rfl rfl (one_of HT_.out (by kernel_rfl)) (by decide) (fun K hK => ?_)
      refine skip_ (w1 := ?_) (by rfl) rfl ?_ ?_
      rotate_left
      ·go_simp
       rfl
      clear hs_ hfs_
      have n_HB := Aside0.mk (show Below w.heap.size w (w10a.setCell ⟨bm, 2, none⟩ (.int .i64 nbmc)) from below_set HB.out Gbm.out)
      have n_1 := Aside0.mk (blk_put (cs' := #[.int .i64 x0.1, .int .i64 nbma, .int .i64 nbmc]) Bbm.out 2 (.int .i64 nbmc) rfl)
      have n_2 := Aside0.mk (blk_far (p := ⟨bm, 2, none⟩) Bbl.out Nlm.out (.int .i64 nbmc))
      have n_3 := Aside0.mk (blk_far (p := ⟨bm, 2, none⟩) Bgx.out (Ne.symm Nmx.out) (.int .i64 nbmc))
      clear HB Bbm Bbl Bgx
      have HB := n_HB
      have Bbm := n_1
      have Bbl := n_2
      have Bgx := n_3
      clear n_HB n_1 n_2 n_3
      generalize (w10a.setCell ⟨bm, 2, none⟩ (.int .i64 nbmc)) = w10b at HB Bbm Bbl Bgx ⊢
      refine hK.out _ _ ?_
      clear hK K
      refine done_ (done_of HT_.out (by kernel_rfl)) ?_
      clear hHeld HT_ HW_
      try go_wp2
      go_roundg k1
      case measure => omega
      case rel =>
       have hw : wrap64 (i + 1) = i + 1 := by have := HI.out; have := HN.out; have := HL.out; unfold wrap64; omega
       have e1 : (RA.step a x).la = nbla := hnbla
       have e2 : (RA.step a x).lc = nblc := hnblc
       have e3 : (RA.step a x).ma = nbma := hnbma
       have e4 : (RA.step a x).mc = nbmc := hnbmc
       have e5 : (RA.step a x).lst = a.lst := if_neg (by have := C1.out; omega)
       have e6 : (RA.step a x).fst = x := if_pos C2.out
       have h7 := HR.out
       have h8 := HI.out
       exact ⟨i + 1, li, i, RA.step a x, rfl, rfl, rfl, by rw [hw], ⟨by omega, by omega, h7.2.2.1, h8, by rw [e5]; exact h7.2.2.2.2.1, by rw [e6]; exact HX.out, fold_next h8.1 HX.out h7.2.2.2.2.2.2⟩, HB, ⟨by rw [e1, e2]; exact Bbl.out⟩, ⟨by rw [e3, e4]; exact Bbm.out⟩⟩
     ·have c1b : decide (a.lst.2.1 ≤ x.2.1) = false := decide_eq_false c1
      have c2b : decide (x.2.2 < a.fst.2.2) = false := decide_eq_false c2
      have C1 := Aside0.mk c1
      have C2 := Aside0.mk c2
      clear c1 c2
      go_upto_region 10 with (first | fail)
      go_quiet (fail)
      go_upto_region 12 with (first | fail)
      go_quiet (fail)
      go_upto_region 14 with (first | fail)
      refine namedR_ (fun w8 hw8 => ?_)
      have n_HB := Aside0.mk (show Below w.heap.size w w8 from by rw [hw8]; repeat (first | exact HB.out | apply pw_below_drewN | apply below_drew1))
      have n_Bbl := Aside0.mk (show w8.heap[bl]? = some (.cells #[.int .i64 x0.1, .int .i64 a.la, .int .i64 a.lc] 57 (0, 0)) from by rw [hw8]; (with_reducible repeat (first | refine blk_drewN ?_ _ | refine blk_drew ?_)); exact Bbl.out)
      have n_Bbm := Aside0.mk (show w8.heap[bm]? = some (.cells #[.int .i64 x0.1, .int .i64 a.ma, .int .i64 a.mc] 57 (0, 0)) from by rw [hw8]; (with_reducible repeat (first | refine blk_drewN ?_ _ | refine blk_drew ?_)); exact Bbm.out)
      have n_Bgx := Aside0.mk (show w8.heap[gx]? = some (.cells #[.int .i64 x.1, .int .i64 x.2.1, .int .i64 x.2.2] 57 (0, 0)) from by rw [hw8]; (with_reducible repeat (first | refine blk_drewN ?_ _ | refine blk_drew ?_)); exact Bgx.out)
      clear HB Bbl Bbm Bgx hw8 hg3 hbc_0 hbc_1 hbc_2 hl0 hl1 hl2 hf0 hf1 hf2 pl ql pf qf hib c1b c2b
      have HB := n_HB
      have Bbl := n_Bbl
      have Bbm := n_Bbm
      have Bgx := n_Bgx
      clear n_HB n_Bbl n_Bbm n_Bgx
      obtain ⟨nbla, hnbla⟩ : ∃ y, (if x.2.1 < a.la then x.2.1 else a.la) = y := ⟨_, rfl⟩
      obtain ⟨nblc, hnblc⟩ : ∃ y, (if x.2.2 < a.lc then x.2.2 else a.lc) = y := ⟨_, rfl⟩
      have n_HB := Aside0.mk (below_step HB.out (below_drew (Below.refl _ _)))
      have n_Bbl := Aside0.mk (blk_below Bbl.out (below_drew (Below.refl _ _)))
      have n_Bbm := Aside0.mk (blk_below Bbm.out (below_drew (Below.refl _ _)))
      have n_Bgx := Aside0.mk (blk_below Bgx.out (below_drew (Below.refl _ _)))
      clear HB Bbl Bbm Bgx
      have HB := n_HB
      have Bbl := n_Bbl
      have Bbm := n_Bbm
      have Bgx := n_Bgx
      clear n_HB n_Bbl n_Bbm n_Bgx
      refine start_ (n := 14) (S := fun w' => w'.cell? ⟨bl, 2, none⟩ = some (.int .i64 a.lc) ∧ w'.cell? ⟨gx, 1, none⟩ = some (.int .i64 x.2.1) ∧ w'.cell? ⟨gx, 2, none⟩ = some (.int .i64 x.2.2)) (ds := [13]) #[false, false, false, false, false, false, false, false, false, false, false, false, false, false] (by kernel_rfl) rfl rfl ⟨(blk_cell Bbl.out 2).trans rfl, (blk_cell Bgx.out 1).trans rfl, (blk_cell Bgx.out 2).trans rfl⟩ (fun hHeld => ?_); refine with_tabW flywheelref26_cluster_result.tab14 flywheelref26_cluster_result.bits14 (fun HT_ HW_ => ?_)
      generalize World.drew w8 = w9 at HB Bbl Bbm Bgx hHeld ⊢
      refine pure_ (i := 0) (N := some 68) (v := ?_) (a' := ?_) #[true, false, false, false, false, false, false, false, false, false, false, false, false, false] rfl rfl (any_of HT_.out (by kernel_rfl)) (fun _ _ _ h => h) (Or.inl ⟨by rfl, ?_⟩) ?_ ?_
      rotate_left
      ·intro w'
       go_simp
       with_reducible rfl
      rotate_left
      ·simp only [Act.put, List.setIfInBounds_toArray, List.set_cons_zero, List.set_cons_succ, i64_w, i32_w]
       rfl
      refine pure_ (i := 2) (N := some 70) (v := ?_) (a' := ?_) #[true, false, true, false, false, false, false, false, false, false, false, false, false, false] rfl rfl (any_of HT_.out (by kernel_rfl)) (fun _ _ _ h => h) (Or.inl ⟨by rfl, ?_⟩) ?_ ?_
      rotate_left
      ·intro w'
       go_simp
       with_reducible rfl
      rotate_left
      ·simp only [Act.put, List.setIfInBounds_toArray, List.set_cons_zero, List.set_cons_succ, i64_w, i32_w]
       rfl
      refine take_ (i := 3) (N := some 71) (v := ?_) (a' := ?_) #[true, false, true, true, false, false, false, false, false, false, false, false, false, false] rfl rfl (take_ofW HT_.out HW_.out (by kernel_rfl)) (fun _ _ _ h => h) (Or.inl ⟨by rfl, ?_⟩) hHeld ?_ ?_
      rotate_left
      ·rintro w' ⟨s0, s1, s2⟩
       go_simp
       with_reducible rfl
      rotate_left
      ·simp only [Act.put, List.setIfInBounds_toArray, List.set_cons_zero, List.set_cons_succ, i64_w, i32_w]
       rfl
      refine pure_ (i := 5) (N := some 73) (v := ?_) (a' := ?_) #[true, false, true, true, false, true, false, false, false, false, false, false, false, false] rfl rfl (any_of HT_.out (by kernel_rfl)) (fun _ _ _ h => h) (Or.inl ⟨by rfl, ?_⟩) ?_ ?_
      rotate_left
      ·intro w'
       go_simp
       with_reducible rfl
      rotate_left
      ·simp only [Act.put, List.setIfInBounds_toArray, List.set_cons_zero, List.set_cons_succ, i64_w, i32_w]
       rfl
      refine take_ (i := 6) (N := some 74) (v := ?_) (a' := ?_) #[true, false, true, true, false, true, true, false, false, false, false, false, false, false] rfl rfl (take_ofW HT_.out HW_.out (by kernel_rfl)) (fun _ _ _ h => h) (Or.inl ⟨by rfl, ?_⟩) hHeld ?_ ?_
      rotate_left
      ·rintro w' ⟨s0, s1, s2⟩
       go_simp
       with_reducible rfl
      rotate_left
      ·simp only [Act.put, List.setIfInBounds_toArray, List.set_cons_zero, List.set_cons_succ, i64_w, i32_w]
       rfl
      refine pure_ (i := 7) (N := some 75) (v := ?_) (a' := ?_) #[true, false, true, true, false, true, true, true, false, false, false, false, false, false] rfl rfl (any_of HT_.out (by kernel_rfl)) (fun _ _ _ h => h) (Or.inl ⟨by rfl, ?_⟩) ?_ ?_
      rotate_left
      ·intro w'
       go_simp
       with_reducible rfl
      rotate_left
      ·simp only [Act.put, List.setIfInBounds_toArray, List.set_cons_zero, List.set_cons_succ, i64_w, i32_w]
       rfl
      refine take_ (i := 8) (N := some 76) (v := ?_) (a' := ?_) #[true, false, true, true, false, true, true, true, true, false, false, false, false, false] rfl rfl (take_ofW HT_.out HW_.out (by kernel_rfl)) (fun _ _ _ h => h) (Or.inl ⟨by rfl, ?_⟩) hHeld ?_ ?_
      rotate_left
      ·rintro w' ⟨s0, s1, s2⟩
       go_simp
       with_reducible rfl
      rotate_left
      ·simp only [Act.put, List.setIfInBounds_toArray, List.set_cons_zero, List.set_cons_succ, i64_w, i32_w]
       rfl
      refine pure_ (i := 9) (N := some 77) (v := ?_) (a' := ?_) #[true, false, true, true, false, true, true, true, true, true, false, false, false, false] rfl rfl (any_of HT_.out (by kernel_rfl)) (fun _ _ _ h => h) (Or.inl ⟨by rfl, ?_⟩) ?_ ?_
      rotate_left
      ·intro w'
       go_simp
       with_reducible rfl
      rotate_left
      ·simp only [Act.put, List.setIfInBounds_toArray, List.set_cons_zero, List.set_cons_succ, i64_w, i32_w]
       rfl
      have hv_ : w9.cell? ⟨bl, 1, none⟩ = some (.int .i64 a.la) := (blk_cell Bbl.out 1).trans rfl
      refine one_ (i := 1) (N := some 69) #[true, true, true, true, false, true, true, true, true, true, false, false, false, false] rfl rfl (one_of HT_.out (by kernel_rfl)) (by decide) (fun K hK => ?_)
      refine value_ (v := .int .i64 a.la) (w1 := w9) (by rfl) rfl ?_ ?_
      ·go_simp
      clear hv_
      refine hK.out _ _ ⟨(blk_cell Bbl.out 2).trans rfl, (blk_cell Bgx.out 1).trans rfl, (blk_cell Bgx.out 2).trans rfl⟩ (fun hHeld => ?_)
      clear hK K
      refine norm_ (a' := ?_) ?_ ?_
      rotate_left
      ·show Act.put _ (some 69) _ = _
       simp only [Act.put, List.setIfInBounds_toArray, List.set_cons_zero, List.set_cons_succ, i64_w, i32_w]
       rfl
      refine pure_ (i := 4) (N := some 72) (v := ?_) (a' := ?_) #[true, true, true, true, true, true, true, true, true, true, false, false, false, false] rfl rfl (any_of HT_.out (by kernel_rfl)) (fun _ _ _ h => h) (Or.inl ⟨by rfl, ?_⟩) ?_ ?_
      rotate_left
      ·intro w'
       go_simp
       with_reducible rfl
      rotate_left
      ·simp only [Act.put, List.setIfInBounds_toArray, List.set_cons_zero, List.set_cons_succ, i64_w, i32_w]
       rfl
      refine pure_ (i := 10) (N := some 78) (v := ?_) (a' := ?_) #[true, true, true, true, true, true, true, true, true, true, true, false, false, false] rfl rfl (any_of HT_.out (by kernel_rfl)) (fun _ _ _ h => h) (Or.inl ⟨by rfl, ?_⟩) ?_ ?_
      rotate_left
      ·intro w'
       go_simp
       with_reducible rfl
      rotate_left
      ·simp only [Act.put, List.setIfInBounds_toArray, List.set_cons_zero, List.set_cons_succ, i64_w, i32_w]
       rfl
      have hs_ : w9.cell? ⟨bl, 1, none⟩ = some (.int .i64 a.la) := (blk_cell Bbl.out 1).trans rfl
      have hfs_ := blk_frozen Bbl.out 1
      refine one_ (i := 11) (N := none) #[true, true, true, true, true, true, true, true, true, true, true, true, false, false] rfl rfl (one_of HT_.out (by kernel_rfl)) (by decide) (fun K hK => ?_)
      refine skip_ (w1 := ?_) (by rfl) rfl ?_ ?_
      rotate_left
      ·go_simp
       rfl
      clear hs_ hfs_
      have n_HB := Aside0.mk (show Below w.heap.size w (w9.setCell ⟨bl, 1, none⟩ (.int .i64 nbla)) from below_set HB.out Gbl.out)
      have n_1 := Aside0.mk (blk_put (cs' := #[.int .i64 x0.1, .int .i64 nbla, .int .i64 a.lc]) Bbl.out 1 (.int .i64 nbla) rfl)
      have n_2 := Aside0.mk (blk_far (p := ⟨bl, 1, none⟩) Bbm.out (Ne.symm Nlm.out) (.int .i64 nbla))
      have n_3 := Aside0.mk (blk_far (p := ⟨bl, 1, none⟩) Bgx.out (Ne.symm Nlx.out) (.int .i64 nbla))
      clear HB Bbl Bbm Bgx
      have HB := n_HB
      have Bbl := n_1
      have Bbm := n_2
      have Bgx := n_3
      clear n_HB n_1 n_2 n_3
      generalize (w9.setCell ⟨bl, 1, none⟩ (.int .i64 nbla)) = w9a at HB Bbl Bbm Bgx ⊢
      refine hK.out _ _ ⟨(blk_cell Bbl.out 2).trans rfl, (blk_cell Bgx.out 1).trans rfl, (blk_cell Bgx.out 2).trans rfl⟩ (fun hHeld => ?_)
      clear hK K
      refine pure_ (i := 12) (N := some 79) (v := ?_) (a' := ?_) #[true, true, true, true, true, true, true, true, true, true, true, true, true, false] rfl rfl (any_of HT_.out (by kernel_rfl)) (fun _ _ _ h => h) (Or.inl ⟨by rfl, ?_⟩) ?_ ?_
      rotate_left
      ·intro w'
       go_simp
       with_reducible rfl
      rotate_left
      ·simp only [Act.put, List.setIfInBounds_toArray, List.set_cons_zero, List.set_cons_succ, i64_w, i32_w]
       rfl
      have hs_ : w9a.cell? ⟨bl, 2, none⟩ = some (.int .i64 a.lc) := (blk_cell Bbl.out 2).trans rfl
      have hfs_ := blk_frozen Bbl.out 2
      refine last_ (i := 13) (N := none) #[true, true, true, true, true, true, true, true, true, true, true, true, true, true] rfl rfl (one_of HT_.out (by kernel_rfl)) (by decide) (fun K hK => ?_)
      refine skip_ (w1 := ?_) (by rfl) rfl ?_ ?_
      rotate_left
      ·go_simp
       rfl
      clear hs_ hfs_
      have n_HB := Aside0.mk (show Below w.heap.size w (w9a.setCell ⟨bl, 2, none⟩ (.int .i64 nblc)) from below_set HB.out Gbl.out)
      have n_1 := Aside0.mk (blk_put (cs' := #[.int .i64 x0.1, .int .i64 nbla, .int .i64 nblc]) Bbl.out 2 (.int .i64 nblc) rfl)
      have n_2 := Aside0.mk (blk_far (p := ⟨bl, 2, none⟩) Bbm.out (Ne.symm Nlm.out) (.int .i64 nblc))
      have n_3 := Aside0.mk (blk_far (p := ⟨bl, 2, none⟩) Bgx.out (Ne.symm Nlx.out) (.int .i64 nblc))
      clear HB Bbl Bbm Bgx
      have HB := n_HB
      have Bbl := n_1
      have Bbm := n_2
      have Bgx := n_3
      clear n_HB n_1 n_2 n_3
      generalize (w9a.setCell ⟨bl, 2, none⟩ (.int .i64 nblc)) = w9b at HB Bbl Bbm Bgx ⊢
      refine hK.out _ _ ?_
      clear hK K
      refine done_ (done_of HT_.out (by kernel_rfl)) ?_
      clear hHeld HT_ HW_
      try go_wp2
      obtain ⟨nbma, hnbma⟩ : ∃ y, (if a.ma < x.2.1 then x.2.1 else a.ma) = y := ⟨_, rfl⟩
      obtain ⟨nbmc, hnbmc⟩ : ∃ y, (if a.mc < x.2.2 then x.2.2 else a.mc) = y := ⟨_, rfl⟩
      have n_HB := Aside0.mk (below_step HB.out (below_drew (Below.refl _ _)))
      have n_Bbl := Aside0.mk (blk_below Bbl.out (below_drew (Below.refl _ _)))
      have n_Bbm := Aside0.mk (blk_below Bbm.out (below_drew (Below.refl _ _)))
      have n_Bgx := Aside0.mk (blk_below Bgx.out (below_drew (Below.refl _ _)))
      clear HB Bbl Bbm Bgx
      have HB := n_HB
      have Bbl := n_Bbl
      have Bbm := n_Bbm
      have Bgx := n_Bgx
      clear n_HB n_Bbl n_Bbm n_Bgx
      refine start_ (n := 14) (S := fun w' => w'.cell? ⟨bm, 2, none⟩ = some (.int .i64 a.mc) ∧ w'.cell? ⟨gx, 1, none⟩ = some (.int .i64 x.2.1) ∧ w'.cell? ⟨gx, 2, none⟩ = some (.int .i64 x.2.2)) (ds := [13]) #[false, false, false, false, false, false, false, false, false, false, false, false, false, false] (by kernel_rfl) rfl rfl ⟨(blk_cell Bbm.out 2).trans rfl, (blk_cell Bgx.out 1).trans rfl, (blk_cell Bgx.out 2).trans rfl⟩ (fun hHeld => ?_); refine with_tabW flywheelref26_cluster_result.tab15 flywheelref26_cluster_result.bits15 (fun HT_ HW_ => ?_)
      generalize World.drew w9b = w10 at HB Bbl Bbm Bgx hHeld ⊢
      refine pure_ (i := 0) (N := some 80) (v := ?_) (a' := ?_) #[true, false, false, false, false, false, false, false, false, false, false, false, false, false] rfl rfl (any_of HT_.out (by kernel_rfl)) (fun _ _ _ h => h) (Or.inl ⟨by rfl, ?_⟩) ?_ ?_
      rotate_left
      ·intro w'
       go_simp
       with_reducible rfl
      rotate_left
      ·simp only [Act.put, List.setIfInBounds_toArray, List.set_cons_zero, List.set_cons_succ, i64_w, i32_w]
       rfl
      refine pure_ (i := 2) (N := some 82) (v := ?_) (a' := ?_) #[true, false, true, false, false, false, false, false, false, false, false, false, false, false] rfl rfl (any_of HT_.out (by kernel_rfl)) (fun _ _ _ h => h) (Or.inl ⟨by rfl, ?_⟩) ?_ ?_
      rotate_left
      ·intro w'
       go_simp
       with_reducible rfl
      rotate_left
      ·simp only [Act.put, List.setIfInBounds_toArray, List.set_cons_zero, List.set_cons_succ, i64_w, i32_w]
       rfl
      refine take_ (i := 3) (N := some 83) (v := ?_) (a' := ?_) #[true, false, true, true, false, false, false, false, false, false, false, false, false, false] rfl rfl (take_ofW HT_.out HW_.out (by kernel_rfl)) (fun _ _ _ h => h) (Or.inl ⟨by rfl, ?_⟩) hHeld ?_ ?_
      rotate_left
      ·rintro w' ⟨s0, s1, s2⟩
       go_simp
       with_reducible rfl
      rotate_left
      ·simp only [Act.put, List.setIfInBounds_toArray, List.set_cons_zero, List.set_cons_succ, i64_w, i32_w]
       rfl
      refine pure_ (i := 5) (N := some 85) (v := ?_) (a' := ?_) #[true, false, true, true, false, true, false, false, false, false, false, false, false, false] rfl rfl (any_of HT_.out (by kernel_rfl)) (fun _ _ _ h => h) (Or.inl ⟨by rfl, ?_⟩) ?_ ?_
      rotate_left
      ·intro w'
       go_simp
       with_reducible rfl
      rotate_left
      ·simp only [Act.put, List.setIfInBounds_toArray, List.set_cons_zero, List.set_cons_succ, i64_w, i32_w]
       rfl
      refine take_ (i := 6) (N := some 86) (v := ?_) (a' := ?_) #[true, false, true, true, false, true, true, false, false, false, false, false, false, false] rfl rfl (take_ofW HT_.out HW_.out (by kernel_rfl)) (fun _ _ _ h => h) (Or.inl ⟨by rfl, ?_⟩) hHeld ?_ ?_
      rotate_left
      ·rintro w' ⟨s0, s1, s2⟩
       go_simp
       with_reducible rfl
      rotate_left
      ·simp only [Act.put, List.setIfInBounds_toArray, List.set_cons_zero, List.set_cons_succ, i64_w, i32_w]
       rfl
      refine pure_ (i := 7) (N := some 87) (v := ?_) (a' := ?_) #[true, false, true, true, false, true, true, true, false, false, false, false, false, false] rfl rfl (any_of HT_.out (by kernel_rfl)) (fun _ _ _ h => h) (Or.inl ⟨by rfl, ?_⟩) ?_ ?_
      rotate_left
      ·intro w'
       go_simp
       with_reducible rfl
      rotate_left
      ·simp only [Act.put, List.setIfInBounds_toArray, List.set_cons_zero, List.set_cons_succ, i64_w, i32_w]
       rfl
      refine take_ (i := 8) (N := some 88) (v := ?_) (a' := ?_) #[true, false, true, true, false, true, true, true, true, false, false, false, false, false] rfl rfl (take_ofW HT_.out HW_.out (by kernel_rfl)) (fun _ _ _ h => h) (Or.inl ⟨by rfl, ?_⟩) hHeld ?_ ?_
      rotate_left
      ·rintro w' ⟨s0, s1, s2⟩
       go_simp
       with_reducible rfl
      rotate_left
      ·simp only [Act.put, List.setIfInBounds_toArray, List.set_cons_zero, List.set_cons_succ, i64_w, i32_w]
       rfl
      refine pure_ (i := 9) (N := some 89) (v := ?_) (a' := ?_) #[true, false, true, true, false, true, true, true, true, true, false, false, false, false] rfl rfl (any_of HT_.out (by kernel_rfl)) (fun _ _ _ h => h) (Or.inl ⟨by rfl, ?_⟩) ?_ ?_
      rotate_left
      ·intro w'
       go_simp
       with_reducible rfl
      rotate_left
      ·simp only [Act.put, List.setIfInBounds_toArray, List.set_cons_zero, List.set_cons_succ, i64_w, i32_w]
       rfl
      have hv_ : w10.cell? ⟨bm, 1, none⟩ = some (.int .i64 a.ma) := (blk_cell Bbm.out 1).trans rfl
      refine one_ (i := 1) (N := some 81) #[true, true, true, true, false, true, true, true, true, true, false, false, false, false] rfl rfl (one_of HT_.out (by kernel_rfl)) (by decide) (fun K hK => ?_)
      refine value_ (v := .int .i64 a.ma) (w1 := w10) (by rfl) rfl ?_ ?_
      ·go_simp
      clear hv_
      refine hK.out _ _ ⟨(blk_cell Bbm.out 2).trans rfl, (blk_cell Bgx.out 1).trans rfl, (blk_cell Bgx.out 2).trans rfl⟩ (fun hHeld => ?_)
      clear hK K
      refine norm_ (a' := ?_) ?_ ?_
      rotate_left
      ·show Act.put _ (some 81) _ = _
       simp only [Act.put, List.setIfInBounds_toArray, List.set_cons_zero, List.set_cons_succ, i64_w, i32_w]
       rfl
      refine pure_ (i := 4) (N := some 84) (v := ?_) (a' := ?_) #[true, true, true, true, true, true, true, true, true, true, false, false, false, false] rfl rfl (any_of HT_.out (by kernel_rfl)) (fun _ _ _ h => h) (Or.inl ⟨by rfl, ?_⟩) ?_ ?_
      rotate_left
      ·intro w'
       go_simp
       with_reducible rfl
      rotate_left
      ·simp only [Act.put, List.setIfInBounds_toArray, List.set_cons_zero, List.set_cons_succ, i64_w, i32_w]
       rfl
      refine pure_ (i := 10) (N := some 90) (v := ?_) (a' := ?_) #[true, true, true, true, true, true, true, true, true, true, true, false, false, false] rfl rfl (any_of HT_.out (by kernel_rfl)) (fun _ _ _ h => h) (Or.inl ⟨by rfl, ?_⟩) ?_ ?_
      rotate_left
      ·intro w'
       go_simp
       with_reducible rfl
      rotate_left
      ·simp only [Act.put, List.setIfInBounds_toArray, List.set_cons_zero, List.set_cons_succ, i64_w, i32_w]
       rfl
      have hs_ : w10.cell? ⟨bm, 1, none⟩ = some (.int .i64 a.ma) := (blk_cell Bbm.out 1).trans rfl
      have hfs_ := blk_frozen Bbm.out 1
      refine one_ (i := 11) (N := none) #[true, true, true, true, true, true, true, true, true, true, true, true, false, false] rfl rfl (one_of HT_.out (by kernel_rfl)) (by decide) (fun K hK => ?_)
      refine skip_ (w1 := ?_) (by rfl) rfl ?_ ?_
      rotate_left
      ·go_simp
       rfl
      clear hs_ hfs_
      have n_HB := Aside0.mk (show Below w.heap.size w (w10.setCell ⟨bm, 1, none⟩ (.int .i64 nbma)) from below_set HB.out Gbm.out)
      have n_1 := Aside0.mk (blk_put (cs' := #[.int .i64 x0.1, .int .i64 nbma, .int .i64 a.mc]) Bbm.out 1 (.int .i64 nbma) rfl)
      have n_2 := Aside0.mk (blk_far (p := ⟨bm, 1, none⟩) Bbl.out Nlm.out (.int .i64 nbma))
      have n_3 := Aside0.mk (blk_far (p := ⟨bm, 1, none⟩) Bgx.out (Ne.symm Nmx.out) (.int .i64 nbma))
      clear HB Bbm Bbl Bgx
      have HB := n_HB
      have Bbm := n_1
      have Bbl := n_2
      have Bgx := n_3
      clear n_HB n_1 n_2 n_3
      generalize (w10.setCell ⟨bm, 1, none⟩ (.int .i64 nbma)) = w10a at HB Bbm Bbl Bgx ⊢
      refine hK.out _ _ ⟨(blk_cell Bbm.out 2).trans rfl, (blk_cell Bgx.out 1).trans rfl, (blk_cell Bgx.out 2).trans rfl⟩ (fun hHeld => ?_)
      clear hK K
      refine pure_ (i := 12) (N := some 91) (v := ?_) (a' := ?_) #[true, true, true, true, true, true, true, true, true, true, true, true, true, false] rfl rfl (any_of HT_.out (by kernel_rfl)) (fun _ _ _ h => h) (Or.inl ⟨by rfl, ?_⟩) ?_ ?_
      rotate_left
      ·intro w'
       go_simp
       with_reducible rfl
      rotate_left
      ·simp only [Act.put, List.setIfInBounds_toArray, List.set_cons_zero, List.set_cons_succ, i64_w, i32_w]
       rfl
      have hs_ : w10a.cell? ⟨bm, 2, none⟩ = some (.int .i64 a.mc) := (blk_cell Bbm.out 2).trans rfl
      have hfs_ := blk_frozen Bbm.out 2
      refine last_ (i := 13) (N := none) #[true, true, true, true, true, true, true, true, true, true, true, true, true, true] rfl rfl (one_of HT_.out (by kernel_rfl)) (by decide) (fun K hK => ?_)
      refine skip_ (w1 := ?_) (by rfl) rfl ?_ ?_
      rotate_left
      ·go_simp
       rfl
      clear hs_ hfs_
      have n_HB := Aside0.mk (show Below w.heap.size w (w10a.setCell ⟨bm, 2, none⟩ (.int .i64 nbmc)) from below_set HB.out Gbm.out)
      have n_1 := Aside0.mk (blk_put (cs' := #[.int .i64 x0.1, .int .i64 nbma, .int .i64 nbmc]) Bbm.out 2 (.int .i64 nbmc) rfl)
      have n_2 := Aside0.mk (blk_far (p := ⟨bm, 2, none⟩) Bbl.out Nlm.out (.int .i64 nbmc))
      have n_3 := Aside0.mk (blk_far (p := ⟨bm, 2, none⟩) Bgx.out (Ne.symm Nmx.out) (.int .i64 nbmc))
      clear HB Bbm Bbl Bgx
      have HB := n_HB
      have Bbm := n_1
      have Bbl := n_2
      have Bgx := n_3
      clear n_HB n_1 n_2 n_3
      generalize (w10a.setCell ⟨bm, 2, none⟩ (.int .i64 nbmc)) = w10b at HB Bbm Bbl Bgx ⊢
      refine hK.out _ _ ?_
      clear hK K
      refine done_ (done_of HT_.out (by kernel_rfl)) ?_
      clear hHeld HT_ HW_
      try go_wp2
      go_roundg k1
      case measure => omega
      case rel =>
       have hw : wrap64 (i + 1) = i + 1 := by have := HI.out; have := HN.out; have := HL.out; unfold wrap64; omega
       have e1 : (RA.step a x).la = nbla := hnbla
       have e2 : (RA.step a x).lc = nblc := hnblc
       have e3 : (RA.step a x).ma = nbma := hnbma
       have e4 : (RA.step a x).mc = nbmc := hnbmc
       have e5 : (RA.step a x).lst = a.lst := if_neg (by have := C1.out; omega)
       have e6 : (RA.step a x).fst = a.fst := if_neg (by have := C2.out; omega)
       have h7 := HR.out
       have h8 := HI.out
       exact ⟨i + 1, li, fi, RA.step a x, rfl, rfl, rfl, by rw [hw], ⟨by omega, by omega, h7.2.2.1, h7.2.2.2.1, by rw [e5]; exact h7.2.2.2.2.1, by rw [e6]; exact h7.2.2.2.2.2.1, fold_next h8.1 HX.out h7.2.2.2.2.2.2⟩, HB, ⟨by rw [e1, e2]; exact Bbl.out⟩, ⟨by rw [e3, e4]; exact Bbm.out⟩⟩
   ·have hib : decide (i < (n : Int)) = false := decide_eq_false hi
    have hin : i = (n : Int) := by have := HR.out; omega
    obtain rfl : a = aF := by have h7 := HR.out.2.2.2.2.2.2; rw [List.drop_eq_nil_of_le (by have := HN.out; omega)] at h7; exact h7
    have HIN := Aside0.mk hin
    clear hi hin HF
    have hg1 := pw_cell_below HB.out G1.out
    have h := H.out
    rw [← HN.out] at h
    clear H
    by_cases c3 : (n : Int) < 4
    ·rw [if_pos c3] at h
     simp only [Option.some.injEq] at h
     subst h
     have c3b : decide ((n : Int) < 4) = true := decide_eq_true c3
     have c3n : decide (n < 4) = true := decide_eq_true (by omega)
     clear c3
     go_wp2
     go_ret
     exact ⟨rfl, HB.out⟩
    rw [if_neg c3] at h
    have c3b : decide ((n : Int) < 4) = false := decide_eq_false c3
    have c3n : decide (n < 4) = false := decide_eq_false (by omega)
    clear c3
    by_cases c4 : a.all < wrap64 (Int.tdiv by_ 2)
    ·rw [if_pos c4] at h
     simp only [Option.some.injEq] at h
     subst h
     have c4b : decide (a.all < wrap64 (Int.tdiv by_ 2)) = true := decide_eq_true c4
     clear c4
     go_wp2
     go_ret
     exact ⟨rfl, HB.out⟩
    rw [if_neg c4] at h
    have c4b : decide (a.all < wrap64 (Int.tdiv by_ 2)) = false := decide_eq_false c4
    clear c4
    replace h := Option.bind_eq_some_iff.mp h
    obtain ⟨came, A1_, h⟩ := h
    replace h := Option.bind_eq_some_iff.mp h
    obtain ⟨sent, A2_, h⟩ := h
    have hmn : (if came < sent then came else sent) = r := Option.some.inj h
    have A1 := Aside0.mk A1_
    have A2 := Aside0.mk A2_
    clear A1_ A2_ h
    obtain ⟨ad_, e1, hl0, hl1, hl2⟩ := at_kS HC.out li HR.out.2.2.1.1 HR.out.2.2.1.2 HR.out.2.2.2.2.1
    obtain rfl : ad = ad_ := by injection e1
    have Xl := Aside0.mk hl0
    clear e1 hl0 hl1 hl2
    have pl := eq_true HR.out.2.2.1.1
    have ql := eq_true HR.out.2.2.1.2
    obtain ⟨ad_, e1, hf0, hf1, hf2⟩ := at_kS HC.out fi HR.out.2.2.2.1.1 HR.out.2.2.2.1.2 HR.out.2.2.2.2.2.1
    obtain rfl : ad = ad_ := by injection e1
    have Xf := Aside0.mk hf0
    clear e1 hf0 hf1 hf2
    have pf := eq_true HR.out.2.2.2.1.1
    have qf := eq_true HR.out.2.2.2.1.2
    go_upto_region 18 with (first | fail)
    clear hg1 hg3
    have n_HB := Aside0.mk (below_step HB.out (below_drew (Below.refl _ _)))
    have n_Bbl := Aside0.mk (blk_below Bbl.out (below_drew (Below.refl _ _)))
    have n_Bbm := Aside0.mk (blk_below Bbm.out (below_drew (Below.refl _ _)))
    clear HB Bbl Bbm
    have HB := n_HB
    have Bbl := n_Bbl
    have Bbm := n_Bbm
    clear n_HB n_Bbl n_Bbm
    refine start_ (n := 17) (S := fun w' => w'.cell? ⟨b, o + 3, none⟩ = some (.slice (some ad) n c) ∧ w'.cell? (ad.add (fi.toNat * 3)) = some (.int .i64 a.fst.1) ∧ w'.cell? ⟨bm, 2, none⟩ = some (.int .i64 a.mc) ∧ w'.cell? ⟨bl, 2, none⟩ = some (.int .i64 a.lc)) (ds := []) #[false, false, false, false, false, false, false, false, false, false, false, false, false, false, false, false, false] (by kernel_rfl) rfl rfl ⟨pw_cell_below HB.out G3.out, pw_cell_below HB.out Xf.out, (blk_cell Bbm.out 2).trans rfl, (blk_cell Bbl.out 2).trans rfl⟩ (fun hHeld => ?_); refine with_tabW flywheelref26_cluster_result.tab18 flywheelref26_cluster_result.bits18 (fun HT_ HW_ => ?_)
    generalize World.drew wr = w11 at HB Bbl Bbm hHeld ⊢
    refine pure_ (i := 0) (N := some 107) (v := ?_) (a' := ?_) #[true, false, false, false, false, false, false, false, false, false, false, false, false, false, false, false, false] rfl rfl (any_of HT_.out (by kernel_rfl)) (fun _ _ _ h => h) (Or.inl ⟨by rfl, ?_⟩) ?_ ?_
    rotate_left
    ·intro w'
     go_simp
     with_reducible rfl
    rotate_left
    ·simp only [Act.put, List.setIfInBounds_toArray, List.set_cons_zero, List.set_cons_succ, i64_w, i32_w]
     rfl
    refine pure_ (i := 1) (N := some 108) (v := ?_) (a' := ?_) #[true, true, false, false, false, false, false, false, false, false, false, false, false, false, false, false, false] rfl rfl (any_of HT_.out (by kernel_rfl)) (fun _ _ _ h => h) (Or.inl ⟨by rfl, ?_⟩) ?_ ?_
    rotate_left
    ·intro w'
     go_simp
     with_reducible rfl
    rotate_left
    ·simp only [Act.put, List.setIfInBounds_toArray, List.set_cons_zero, List.set_cons_succ, i64_w, i32_w]
     rfl
    refine pure_ (i := 2) (N := some 109) (v := ?_) (a' := ?_) #[true, true, true, false, false, false, false, false, false, false, false, false, false, false, false, false, false] rfl rfl (any_of HT_.out (by kernel_rfl)) (fun _ _ _ h => h) (Or.inl ⟨by rfl, ?_⟩) ?_ ?_
    rotate_left
    ·intro w'
     go_simp
     with_reducible rfl
    rotate_left
    ·simp only [Act.put, List.setIfInBounds_toArray, List.set_cons_zero, List.set_cons_succ, i64_w, i32_w]
     rfl
    refine pure_ (i := 3) (N := some 110) (v := ?_) (a' := ?_) #[true, true, true, true, false, false, false, false, false, false, false, false, false, false, false, false, false] rfl rfl (any_of HT_.out (by kernel_rfl)) (fun _ _ _ h => h) (Or.inl ⟨by rfl, ?_⟩) ?_ ?_
    rotate_left
    ·intro w'
     go_simp
     with_reducible rfl
    rotate_left
    ·simp only [Act.put, List.setIfInBounds_toArray, List.set_cons_zero, List.set_cons_succ, i64_w, i32_w]
     rfl
    refine take_ (i := 4) (N := some 111) (v := ?_) (a' := ?_) #[true, true, true, true, true, false, false, false, false, false, false, false, false, false, false, false, false] rfl rfl (take_ofW HT_.out HW_.out (by kernel_rfl)) (fun _ _ _ h => h) (Or.inl ⟨by rfl, ?_⟩) hHeld ?_ ?_
    rotate_left
    ·rintro w' ⟨s0, s1, s2, s3⟩
     go_simp
     with_reducible rfl
    rotate_left
    ·simp only [Act.put, List.setIfInBounds_toArray, List.set_cons_zero, List.set_cons_succ, i64_w, i32_w]
     rfl
    refine pure_ (i := 5) (N := some 112) (v := ?_) (a' := ?_) #[true, true, true, true, true, true, false, false, false, false, false, false, false, false, false, false, false] rfl rfl (any_of HT_.out (by kernel_rfl)) (fun _ _ _ h => h) (Or.inl ⟨by rfl, ?_⟩) ?_ ?_
    rotate_left
    ·intro w'
     go_simp
     with_reducible rfl
    rotate_left
    ·simp only [Act.put, List.setIfInBounds_toArray, List.set_cons_zero, List.set_cons_succ, i64_w, i32_w]
     rfl
    refine pure_ (i := 6) (N := some 113) (v := ?_) (a' := ?_) #[true, true, true, true, true, true, true, false, false, false, false, false, false, false, false, false, false] rfl rfl (any_of HT_.out (by kernel_rfl)) (fun _ _ _ h => h) (Or.inl ⟨by rfl, ?_⟩) ?_ ?_
    rotate_left
    ·intro w'
     go_simp
     with_reducible rfl
    rotate_left
    ·simp only [Act.put, List.setIfInBounds_toArray, List.set_cons_zero, List.set_cons_succ, i64_w, i32_w]
     rfl
    refine pure_ (i := 7) (N := some 114) (v := ?_) (a' := ?_) #[true, true, true, true, true, true, true, true, false, false, false, false, false, false, false, false, false] rfl rfl (any_of HT_.out (by kernel_rfl)) (fun _ _ _ h => h) (Or.inl ⟨by rfl, ?_⟩) ?_ ?_
    rotate_left
    ·intro w'
     go_simp
     with_reducible rfl
    rotate_left
    ·simp only [Act.put, List.setIfInBounds_toArray, List.set_cons_zero, List.set_cons_succ, i64_w, i32_w]
     rfl
    refine take_ (i := 8) (N := some 115) (v := ?_) (a' := ?_) #[true, true, true, true, true, true, true, true, true, false, false, false, false, false, false, false, false] rfl rfl (take_ofW HT_.out HW_.out (by kernel_rfl)) (fun _ _ _ h => h) (Or.inl ⟨by rfl, ?_⟩) hHeld ?_ ?_
    rotate_left
    ·rintro w' ⟨s0, s1, s2, s3⟩
     go_simp
     with_reducible rfl
    rotate_left
    ·simp only [Act.put, List.setIfInBounds_toArray, List.set_cons_zero, List.set_cons_succ, i64_w, i32_w]
     rfl
    refine pure_ (i := 9) (N := some 116) (v := ?_) (a' := ?_) #[true, true, true, true, true, true, true, true, true, true, false, false, false, false, false, false, false] rfl rfl (any_of HT_.out (by kernel_rfl)) (fun _ _ _ h => h) (Or.inl ⟨by rfl, ?_⟩) ?_ ?_
    rotate_left
    ·intro w'
     go_simp
     with_reducible rfl
    rotate_left
    ·simp only [Act.put, List.setIfInBounds_toArray, List.set_cons_zero, List.set_cons_succ, i64_w, i32_w]
     rfl
    refine pure_ (i := 10) (N := some 117) (v := ?_) (a' := ?_) #[true, true, true, true, true, true, true, true, true, true, true, false, false, false, false, false, false] rfl rfl (any_of HT_.out (by kernel_rfl)) (fun _ _ _ h => h) (Or.inl ⟨by rfl, ?_⟩) ?_ ?_
    rotate_left
    ·intro w'
     go_simp
     with_reducible rfl
    rotate_left
    ·simp only [Act.put, List.setIfInBounds_toArray, List.set_cons_zero, List.set_cons_succ, i64_w, i32_w]
     rfl
    refine take_ (i := 11) (N := some 118) (v := ?_) (a' := ?_) #[true, true, true, true, true, true, true, true, true, true, true, true, false, false, false, false, false] rfl rfl (take_ofW HT_.out HW_.out (by kernel_rfl)) (fun _ _ _ h => h) (Or.inl ⟨by rfl, ?_⟩) hHeld ?_ ?_
    rotate_left
    ·rintro w' ⟨s0, s1, s2, s3⟩
     go_simp
     with_reducible rfl
    rotate_left
    ·simp only [Act.put, List.setIfInBounds_toArray, List.set_cons_zero, List.set_cons_succ, i64_w, i32_w]
     rfl
    refine pure_ (i := 12) (N := some 119) (v := ?_) (a' := ?_) #[true, true, true, true, true, true, true, true, true, true, true, true, true, false, false, false, false] rfl rfl (any_of HT_.out (by kernel_rfl)) (fun _ _ _ h => h) (Or.inl ⟨by rfl, ?_⟩) ?_ ?_
    rotate_left
    ·intro w'
     go_simp
     with_reducible rfl
    rotate_left
    ·simp only [Act.put, List.setIfInBounds_toArray, List.set_cons_zero, List.set_cons_succ, i64_w, i32_w]
     rfl
    refine take_ (i := 13) (N := some 120) (v := ?_) (a' := ?_) #[true, true, true, true, true, true, true, true, true, true, true, true, true, true, false, false, false] rfl rfl (take_ofW HT_.out HW_.out (by kernel_rfl)) (fun _ _ _ h => h) (Or.inl ⟨by rfl, ?_⟩) hHeld ?_ ?_
    rotate_left
    ·rintro w' ⟨s0, s1, s2, s3⟩
     go_simp
     with_reducible rfl
    rotate_left
    ·simp only [Act.put, List.setIfInBounds_toArray, List.set_cons_zero, List.set_cons_succ, i64_w, i32_w]
     rfl
    refine pure_ (i := 14) (N := some 121) (v := ?_) (a' := ?_) #[true, true, true, true, true, true, true, true, true, true, true, true, true, true, true, false, false] rfl rfl (any_of HT_.out (by kernel_rfl)) (fun _ _ _ h => h) (Or.inl ⟨by rfl, ?_⟩) ?_ ?_
    rotate_left
    ·intro w'
     go_simp
     with_reducible rfl
    rotate_left
    ·simp only [Act.put, List.setIfInBounds_toArray, List.set_cons_zero, List.set_cons_succ, i64_w, i32_w]
     rfl
    refine one_ (i := 15) (N := some 122) #[true, true, true, true, true, true, true, true, true, true, true, true, true, true, true, true, false] rfl rfl (one_of HT_.out (by kernel_rfl)) (by decide) (fun K hK => ?_)
    refine goes_ Try.func28 (by kernel_rfl) rfl #[.int .i64 (wrap64 (a.all - a.fst.1)), .int .i64 (wrap64 (a.mc - a.lc))] (by rfl) rfl rfl (by (try simp only [List.map_toArray, List.map_cons, List.map_nil]); first | done | rfl) ?_
    with_reducible refine (flywheelref26_over.calls _ _ came _ A1.out).mono ?_
    rintro e w12 ⟨rfl, hb⟩
    refine ⟨_, rfl, ?_⟩
    have n_HB := Aside0.mk (below_step HB.out hb)
    have n_Bbl := Aside0.mk (blk_below Bbl.out hb)
    have n_Bbm := Aside0.mk (blk_below Bbm.out hb)
    clear HB Bbl Bbm
    have HB := n_HB
    have Bbl := n_Bbl
    have Bbm := n_Bbm
    clear n_HB n_Bbl n_Bbm
    clear hb
    refine hK.out _ _ ⟨pw_cell_below HB.out G3.out, pw_cell_below HB.out Xf.out, (blk_cell Bbm.out 2).trans rfl, (blk_cell Bbl.out 2).trans rfl⟩ (fun hHeld => ?_)
    clear hK K
    refine norm_ (a' := ?_) ?_ ?_
    rotate_left
    ·show Act.put _ (some 122) _ = _
     simp only [Act.put, List.setIfInBounds_toArray, List.set_cons_zero, List.set_cons_succ, i64_w, i32_w]
     rfl
    refine pure_ (i := 16) (N := some 10) (v := ?_) (a' := ?_) #[true, true, true, true, true, true, true, true, true, true, true, true, true, true, true, true, true] rfl rfl (any_of HT_.out (by kernel_rfl)) (fun _ _ _ h => h) (Or.inl ⟨by rfl, ?_⟩) ?_ ?_
    rotate_left
    ·intro w'
     go_simp
     with_reducible rfl
    rotate_left
    ·simp only [Act.put, List.setIfInBounds_toArray, List.set_cons_zero, List.set_cons_succ, i64_w, i32_w]
     rfl
    refine done_ (done_of HT_.out (by kernel_rfl)) ?_
    clear hHeld HT_ HW_
    try go_wp2
    have n_HB := Aside0.mk (below_step HB.out (below_drew (Below.refl _ _)))
    have n_Bbl := Aside0.mk (blk_below Bbl.out (below_drew (Below.refl _ _)))
    have n_Bbm := Aside0.mk (blk_below Bbm.out (below_drew (Below.refl _ _)))
    clear HB Bbl Bbm
    have HB := n_HB
    have Bbl := n_Bbl
    have Bbm := n_Bbm
    clear n_HB n_Bbl n_Bbm
    refine start_ (n := 17) (S := fun w' => w'.cell? ⟨b, o + 3, none⟩ = some (.slice (some ad) n c) ∧ w'.cell? (ad.add (li.toNat * 3)) = some (.int .i64 a.lst.1) ∧ w'.cell? ⟨bm, 1, none⟩ = some (.int .i64 a.ma) ∧ w'.cell? ⟨bl, 1, none⟩ = some (.int .i64 a.la)) (ds := []) #[false, false, false, false, false, false, false, false, false, false, false, false, false, false, false, false, false] (by kernel_rfl) rfl rfl ⟨pw_cell_below HB.out G3.out, pw_cell_below HB.out Xl.out, (blk_cell Bbm.out 1).trans rfl, (blk_cell Bbl.out 1).trans rfl⟩ (fun hHeld => ?_); refine with_tabW flywheelref26_cluster_result.tab19 flywheelref26_cluster_result.bits19 (fun HT_ HW_ => ?_)
    generalize World.drew w12 = w13 at HB Bbl Bbm hHeld ⊢
    refine pure_ (i := 0) (N := some 123) (v := ?_) (a' := ?_) #[true, false, false, false, false, false, false, false, false, false, false, false, false, false, false, false, false] rfl rfl (any_of HT_.out (by kernel_rfl)) (fun _ _ _ h => h) (Or.inl ⟨by rfl, ?_⟩) ?_ ?_
    rotate_left
    ·intro w'
     go_simp
     with_reducible rfl
    rotate_left
    ·simp only [Act.put, List.setIfInBounds_toArray, List.set_cons_zero, List.set_cons_succ, i64_w, i32_w]
     rfl
    refine pure_ (i := 1) (N := some 124) (v := ?_) (a' := ?_) #[true, true, false, false, false, false, false, false, false, false, false, false, false, false, false, false, false] rfl rfl (any_of HT_.out (by kernel_rfl)) (fun _ _ _ h => h) (Or.inl ⟨by rfl, ?_⟩) ?_ ?_
    rotate_left
    ·intro w'
     go_simp
     with_reducible rfl
    rotate_left
    ·simp only [Act.put, List.setIfInBounds_toArray, List.set_cons_zero, List.set_cons_succ, i64_w, i32_w]
     rfl
    refine pure_ (i := 2) (N := some 125) (v := ?_) (a' := ?_) #[true, true, true, false, false, false, false, false, false, false, false, false, false, false, false, false, false] rfl rfl (any_of HT_.out (by kernel_rfl)) (fun _ _ _ h => h) (Or.inl ⟨by rfl, ?_⟩) ?_ ?_
    rotate_left
    ·intro w'
     go_simp
     with_reducible rfl
    rotate_left
    ·simp only [Act.put, List.setIfInBounds_toArray, List.set_cons_zero, List.set_cons_succ, i64_w, i32_w]
     rfl
    refine pure_ (i := 3) (N := some 126) (v := ?_) (a' := ?_) #[true, true, true, true, false, false, false, false, false, false, false, false, false, false, false, false, false] rfl rfl (any_of HT_.out (by kernel_rfl)) (fun _ _ _ h => h) (Or.inl ⟨by rfl, ?_⟩) ?_ ?_
    rotate_left
    ·intro w'
     go_simp
     with_reducible rfl
    rotate_left
    ·simp only [Act.put, List.setIfInBounds_toArray, List.set_cons_zero, List.set_cons_succ, i64_w, i32_w]
     rfl
    refine take_ (i := 4) (N := some 127) (v := ?_) (a' := ?_) #[true, true, true, true, true, false, false, false, false, false, false, false, false, false, false, false, false] rfl rfl (take_ofW HT_.out HW_.out (by kernel_rfl)) (fun _ _ _ h => h) (Or.inl ⟨by rfl, ?_⟩) hHeld ?_ ?_
    rotate_left
    ·rintro w' ⟨s0, s1, s2, s3⟩
     go_simp
     with_reducible rfl
    rotate_left
    ·simp only [Act.put, List.setIfInBounds_toArray, List.set_cons_zero, List.set_cons_succ, i64_w, i32_w]
     rfl
    refine pure_ (i := 5) (N := some 128) (v := ?_) (a' := ?_) #[true, true, true, true, true, true, false, false, false, false, false, false, false, false, false, false, false] rfl rfl (any_of HT_.out (by kernel_rfl)) (fun _ _ _ h => h) (Or.inl ⟨by rfl, ?_⟩) ?_ ?_
    rotate_left
    ·intro w'
     go_simp
     with_reducible rfl
    rotate_left
    ·simp only [Act.put, List.setIfInBounds_toArray, List.set_cons_zero, List.set_cons_succ, i64_w, i32_w]
     rfl
    refine pure_ (i := 6) (N := some 129) (v := ?_) (a' := ?_) #[true, true, true, true, true, true, true, false, false, false, false, false, false, false, false, false, false] rfl rfl (any_of HT_.out (by kernel_rfl)) (fun _ _ _ h => h) (Or.inl ⟨by rfl, ?_⟩) ?_ ?_
    rotate_left
    ·intro w'
     go_simp
     with_reducible rfl
    rotate_left
    ·simp only [Act.put, List.setIfInBounds_toArray, List.set_cons_zero, List.set_cons_succ, i64_w, i32_w]
     rfl
    refine pure_ (i := 7) (N := some 130) (v := ?_) (a' := ?_) #[true, true, true, true, true, true, true, true, false, false, false, false, false, false, false, false, false] rfl rfl (any_of HT_.out (by kernel_rfl)) (fun _ _ _ h => h) (Or.inl ⟨by rfl, ?_⟩) ?_ ?_
    rotate_left
    ·intro w'
     go_simp
     with_reducible rfl
    rotate_left
    ·simp only [Act.put, List.setIfInBounds_toArray, List.set_cons_zero, List.set_cons_succ, i64_w, i32_w]
     rfl
    refine take_ (i := 8) (N := some 131) (v := ?_) (a' := ?_) #[true, true, true, true, true, true, true, true, true, false, false, false, false, false, false, false, false] rfl rfl (take_ofW HT_.out HW_.out (by kernel_rfl)) (fun _ _ _ h => h) (Or.inl ⟨by rfl, ?_⟩) hHeld ?_ ?_
    rotate_left
    ·rintro w' ⟨s0, s1, s2, s3⟩
     go_simp
     with_reducible rfl
    rotate_left
    ·simp only [Act.put, List.setIfInBounds_toArray, List.set_cons_zero, List.set_cons_succ, i64_w, i32_w]
     rfl
    refine pure_ (i := 9) (N := some 132) (v := ?_) (a' := ?_) #[true, true, true, true, true, true, true, true, true, true, false, false, false, false, false, false, false] rfl rfl (any_of HT_.out (by kernel_rfl)) (fun _ _ _ h => h) (Or.inl ⟨by rfl, ?_⟩) ?_ ?_
    rotate_left
    ·intro w'
     go_simp
     with_reducible rfl
    rotate_left
    ·simp only [Act.put, List.setIfInBounds_toArray, List.set_cons_zero, List.set_cons_succ, i64_w, i32_w]
     rfl
    refine pure_ (i := 10) (N := some 133) (v := ?_) (a' := ?_) #[true, true, true, true, true, true, true, true, true, true, true, false, false, false, false, false, false] rfl rfl (any_of HT_.out (by kernel_rfl)) (fun _ _ _ h => h) (Or.inl ⟨by rfl, ?_⟩) ?_ ?_
    rotate_left
    ·intro w'
     go_simp
     with_reducible rfl
    rotate_left
    ·simp only [Act.put, List.setIfInBounds_toArray, List.set_cons_zero, List.set_cons_succ, i64_w, i32_w]
     rfl
    refine take_ (i := 11) (N := some 134) (v := ?_) (a' := ?_) #[true, true, true, true, true, true, true, true, true, true, true, true, false, false, false, false, false] rfl rfl (take_ofW HT_.out HW_.out (by kernel_rfl)) (fun _ _ _ h => h) (Or.inl ⟨by rfl, ?_⟩) hHeld ?_ ?_
    rotate_left
    ·rintro w' ⟨s0, s1, s2, s3⟩
     go_simp
     with_reducible rfl
    rotate_left
    ·simp only [Act.put, List.setIfInBounds_toArray, List.set_cons_zero, List.set_cons_succ, i64_w, i32_w]
     rfl
    refine pure_ (i := 12) (N := some 135) (v := ?_) (a' := ?_) #[true, true, true, true, true, true, true, true, true, true, true, true, true, false, false, false, false] rfl rfl (any_of HT_.out (by kernel_rfl)) (fun _ _ _ h => h) (Or.inl ⟨by rfl, ?_⟩) ?_ ?_
    rotate_left
    ·intro w'
     go_simp
     with_reducible rfl
    rotate_left
    ·simp only [Act.put, List.setIfInBounds_toArray, List.set_cons_zero, List.set_cons_succ, i64_w, i32_w]
     rfl
    refine take_ (i := 13) (N := some 136) (v := ?_) (a' := ?_) #[true, true, true, true, true, true, true, true, true, true, true, true, true, true, false, false, false] rfl rfl (take_ofW HT_.out HW_.out (by kernel_rfl)) (fun _ _ _ h => h) (Or.inl ⟨by rfl, ?_⟩) hHeld ?_ ?_
    rotate_left
    ·rintro w' ⟨s0, s1, s2, s3⟩
     go_simp
     with_reducible rfl
    rotate_left
    ·simp only [Act.put, List.setIfInBounds_toArray, List.set_cons_zero, List.set_cons_succ, i64_w, i32_w]
     rfl
    refine pure_ (i := 14) (N := some 137) (v := ?_) (a' := ?_) #[true, true, true, true, true, true, true, true, true, true, true, true, true, true, true, false, false] rfl rfl (any_of HT_.out (by kernel_rfl)) (fun _ _ _ h => h) (Or.inl ⟨by rfl, ?_⟩) ?_ ?_
    rotate_left
    ·intro w'
     go_simp
     with_reducible rfl
    rotate_left
    ·simp only [Act.put, List.setIfInBounds_toArray, List.set_cons_zero, List.set_cons_succ, i64_w, i32_w]
     rfl
    refine one_ (i := 15) (N := some 138) #[true, true, true, true, true, true, true, true, true, true, true, true, true, true, true, true, false] rfl rfl (one_of HT_.out (by kernel_rfl)) (by decide) (fun K hK => ?_)
    refine goes_ Try.func28 (by kernel_rfl) rfl #[.int .i64 (wrap64 (a.all - a.lst.1)), .int .i64 (wrap64 (a.ma - a.la))] (by rfl) rfl rfl (by (try simp only [List.map_toArray, List.map_cons, List.map_nil]); first | done | rfl) ?_
    with_reducible refine (flywheelref26_over.calls _ _ sent _ A2.out).mono ?_
    rintro e w14 ⟨rfl, hb⟩
    refine ⟨_, rfl, ?_⟩
    have n_HB := Aside0.mk (below_step HB.out hb)
    have n_Bbl := Aside0.mk (blk_below Bbl.out hb)
    have n_Bbm := Aside0.mk (blk_below Bbm.out hb)
    clear HB Bbl Bbm
    have HB := n_HB
    have Bbl := n_Bbl
    have Bbm := n_Bbm
    clear n_HB n_Bbl n_Bbm
    clear hb
    refine hK.out _ _ ⟨pw_cell_below HB.out G3.out, pw_cell_below HB.out Xl.out, (blk_cell Bbm.out 1).trans rfl, (blk_cell Bbl.out 1).trans rfl⟩ (fun hHeld => ?_)
    clear hK K
    refine norm_ (a' := ?_) ?_ ?_
    rotate_left
    ·show Act.put _ (some 138) _ = _
     simp only [Act.put, List.setIfInBounds_toArray, List.set_cons_zero, List.set_cons_succ, i64_w, i32_w]
     rfl
    refine pure_ (i := 16) (N := some 11) (v := ?_) (a' := ?_) #[true, true, true, true, true, true, true, true, true, true, true, true, true, true, true, true, true] rfl rfl (any_of HT_.out (by kernel_rfl)) (fun _ _ _ h => h) (Or.inl ⟨by rfl, ?_⟩) ?_ ?_
    rotate_left
    ·intro w'
     go_simp
     with_reducible rfl
    rotate_left
    ·simp only [Act.put, List.setIfInBounds_toArray, List.set_cons_zero, List.set_cons_succ, i64_w, i32_w]
     rfl
    refine done_ (done_of HT_.out (by kernel_rfl)) ?_
    clear hHeld HT_ HW_
    try go_wp2
    go_ret
    exact ⟨rfl, HB.out⟩
end Go.Proofs.Ytdddpmmpfemibaa.P
end

section
namespace Go.Proofs.Ytdddpmmpfemibaa.P
open Go.RowKit Go.Proofs.YtdddpmmpfemibaaW.PrintWords Go.Proofs.YtdddpmmpfemibaaW.PrintLast Go.Proofs.YtdddpmmpfemibaaW.PrintMore
attribute [local go_sem] max2_int min2_int max_two min_two max_three min_three max_four min_four   -- for this text's walks alone
set_option linter.unusedVariables false
set_option linter.unusedSimpArgs false
theorem kS_E : kS.E = [] := rfl
theorem row_types57 {w W1 : World} {base : Nat} {v : Value} {vs : List (Int × Int × Int)} (h : Kd.R kS 57 w base (fun _ => True) v vs) (hk : ∀ (i : Nat) (cs : Array Value), w.heap[i]? = some (.cells cs 57 (0, 0)) → W1.heap[i]? = some (.cells cs 57 (0, 0))) : Kd.R kS 57 W1 base (fun _ => True) v vs :=
 Kd.R_mono (Kd.R_move (Kd.R_bound h) (fun k hk' => by
  obtain ⟨_, _, _, q, hq, cs, hc⟩ := hk'
  rw [kS_E] at hq
  simp only [List.mem_singleton] at hq
  subst hq
  exact (hk k cs hc).trans hc.symm)) (fun _ _ => trivial)
theorem IsS45.setb {w0 W : World} {g : Nat} {s : PrS} (h : IsS45 w0 W g s) (x : Int) : IsS45 w0 (W.setCell ⟨g, 1, none⟩ (.int .i64 x)) g ⟨x, s.l⟩ := by
 obtain ⟨A, n, c, vs, h1, h2, h3, h4⟩ := h
 have hk : ∀ (i : Nat) (cs : Array Value) (t : TypeId), W.heap[i]? = some (.cells cs t (0, 0)) → t ≠ 45 → (W.setCell ⟨g, 1, none⟩ (.int .i64 x)).heap[i]? = some (.cells cs t (0, 0)) := fun i cs t hi ht => (Below.heap_setCell W ⟨g, 1, none⟩ _ i (bkt hi h1 ht)).trans hi
 exact ⟨A, n, c, vs, blk_put h1 1 _ rfl, h2, row_types h3 (fun i cs hi => hk i cs 52 hi (by decide)), h4.same (by simp [World.setCell]) (fun i cs hi => hk i cs 57 hi (by decide))⟩
def flywheelref26_Probe_Got.f (s0_0 : PrS) (a1 : Int) (a2 : Int) (a3 : Int) (a4 : Int) : Option (Int × PrS) := if s0_0.l.length < 1000000 then (if a1 < 1 then some (0, s0_0) else (if (s0_0.l.length : Int) < a1 then some (0, s0_0) else (if a1 ≤ (s0_0.l.length : Int) - 4 then some (0, s0_0) else ((flywheelref26_may.f a2 a3).bind fun t => (if t = true then (if a4 < -1125899906842624 then some (0, s0_0) else (if 1125899906842624 < a4 then some (0, s0_0) else ((s0_0.l[(a1 - 1).toNat]?).bind fun c => (if c.l.length < 900000 then ((flywheelref26_cluster_result.f c.by_ (c.l ++ [(a2, a3, a4)])).bind fun r => some (r, ⟨mx s0_0.b r, s0_0.l.set (a1 - 1).toNat ⟨c.ra, c.by_, c.se, c.l ++ [(a2, a3, a4)]⟩⟩)) else none)))) else some (0, s0_0)))))) else none
set_option maxHeartbeats 16000000 in
set_option maxRecDepth 100000 in
theorem flywheelref26_Probe_Got.none_ (g : Nat) (s : PrS) (a1 a2 a3 a4 : Int) (w0 w : World) (hI : IsS45 w0 w g s) (hB : Below w0.heap.size w0 w) (hl : s.l.length < 1000000) (t : Bool) (hm : flywheelref26_may.f a2 a3 = some t) (ho : a1 < 1 ∨ (s.l.length : Int) < a1 ∨ a1 ≤ (s.l.length : Int) - 4 ∨ t = false ∨ a4 < -1125899906842624 ∨ 1125899906842624 < a4) :
  Calls Try.prog 11 #[.pointer (some ⟨g, 0, none⟩), .int .i64 a1, .int .i64 a2, .int .i64 a3, .int .i64 a4] w fun e w' => e = .returned (.int .i64 0) ∧ IsS45 w0 w' g s ∧ Below w0.heap.size w0 w' ∧ KeepR w w' := by
 have HS := Aside0.mk hI
 have HB := Aside0.mk hB
 have HM := Aside0.mk hm
 obtain ⟨A, n, c, vs, g1, g2, g3, g4⟩ := hI
 have hn : n = s.l.length := (Kd.R_reads' g3).1.trans g4.len
 have hg_0 : w.cell? ⟨g, 0, none⟩ = some (.slice A n c) := (blk_cell g1 0).trans rfl
 rw [← hn] at ho hl
 obtain ⟨j4, hj4⟩ : ∃ j, IntKind.i64.wrap ((n : Int) - 4) = j := ⟨_, rfl⟩
 have hj4b : j4 = (n : Int) - 4 := by rw [← hj4, i64_w]; unfold wrap64; omega
 rw [← hj4b] at ho
 clear g1 g2 g3 g4 hn hB hm hl hj4b
 by_cases c1 : a1 < 1
 ·have c1b : decide (a1 < 1) = true := decide_eq_true c1
  clear c1 ho
  go_enter Try.func11, Try.ntmps11
  go_wp2
  go_ret
  exact ⟨rfl, by repeat (first | exact HS.out | apply IsS45.drewN | apply IsS45.drew), by repeat (first | exact HB.out | apply pw_below_drewN | apply below_drew1), by repeat (first | exact KeepR.refl _ | refine KeepR.below ?_ (below_drew (Below.refl _ _)) | refine KeepR.below ?_ (pw_below_drewN (Below.refl _ _) _))⟩
 have c1b : decide (a1 < 1) = false := decide_eq_false c1
 replace ho := ho.resolve_left c1
 clear c1
 by_cases c2 : (n : Int) < a1
 ·have c2b : decide ((n : Int) < a1) = true := decide_eq_true c2
  clear c2 ho
  go_enter Try.func11, Try.ntmps11
  go_wp2
  go_ret
  exact ⟨rfl, by repeat (first | exact HS.out | apply IsS45.drewN | apply IsS45.drew), by repeat (first | exact HB.out | apply pw_below_drewN | apply below_drew1), by repeat (first | exact KeepR.refl _ | refine KeepR.below ?_ (below_drew (Below.refl _ _)) | refine KeepR.below ?_ (pw_below_drewN (Below.refl _ _) _))⟩
 have c2b : decide ((n : Int) < a1) = false := decide_eq_false c2
 replace ho := ho.resolve_left c2
 clear c2
 by_cases c3 : a1 ≤ j4
 ·have c3b : decide (a1 ≤ j4) = true := decide_eq_true c3
  clear c3 ho
  go_enter Try.func11, Try.ntmps11
  go_wp2
  go_ret
  exact ⟨rfl, by repeat (first | exact HS.out | apply IsS45.drewN | apply IsS45.drew), by repeat (first | exact HB.out | apply pw_below_drewN | apply below_drew1), by repeat (first | exact KeepR.refl _ | refine KeepR.below ?_ (below_drew (Below.refl _ _)) | refine KeepR.below ?_ (pw_below_drewN (Below.refl _ _) _))⟩
 have c3b : decide (a1 ≤ j4) = false := decide_eq_false c3
 replace ho := ho.resolve_left c3
 clear c3
 cases t with
 | false =>
  clear ho
  go_enter Try.func11, Try.ntmps11
  go_wp2_with (first | (go_at_call 21; (with_reducible refine (flywheelref26_may.calls a2 a3 _ _ HM.out).mono ?_); rintro e w5 ⟨rfl, hd⟩; obtain ⟨nd2, rfl⟩ := hd))
  go_ret
  exact ⟨rfl, by repeat (first | exact HS.out | apply IsS45.drewN | apply IsS45.drew), by repeat (first | exact HB.out | apply pw_below_drewN | apply below_drew1), by repeat (first | exact KeepR.refl _ | refine KeepR.below ?_ (below_drew (Below.refl _ _)) | refine KeepR.below ?_ (pw_below_drewN (Below.refl _ _) _))⟩
 | true =>
  replace ho := ho.resolve_left (by simp)
  by_cases c5 : a4 < -1125899906842624
  ·have c5b : decide (a4 < -1125899906842624) = true := decide_eq_true c5
   clear c5 ho
   go_enter Try.func11, Try.ntmps11
   go_wp2_with (first | (go_at_call 21; (with_reducible refine (flywheelref26_may.calls a2 a3 _ _ HM.out).mono ?_); rintro e w5 ⟨rfl, hd⟩; obtain ⟨nd2, rfl⟩ := hd))
   go_ret
   exact ⟨rfl, by repeat (first | exact HS.out | apply IsS45.drewN | apply IsS45.drew), by repeat (first | exact HB.out | apply pw_below_drewN | apply below_drew1), by repeat (first | exact KeepR.refl _ | refine KeepR.below ?_ (below_drew (Below.refl _ _)) | refine KeepR.below ?_ (pw_below_drewN (Below.refl _ _) _))⟩
  have c5b : decide (a4 < -1125899906842624) = false := decide_eq_false c5
  have c6b : decide (1125899906842624 < a4) = true := decide_eq_true (ho.resolve_left c5)
  clear c5 ho
  go_enter Try.func11, Try.ntmps11
  go_wp2_with (first | (go_at_call 21; (with_reducible refine (flywheelref26_may.calls a2 a3 _ _ HM.out).mono ?_); rintro e w5 ⟨rfl, hd⟩; obtain ⟨nd2, rfl⟩ := hd))
  go_ret
  exact ⟨rfl, by repeat (first | exact HS.out | apply IsS45.drewN | apply IsS45.drew), by repeat (first | exact HB.out | apply pw_below_drewN | apply below_drew1), by repeat (first | exact KeepR.refl _ | refine KeepR.below ?_ (below_drew (Below.refl _ _)) | refine KeepR.below ?_ (pw_below_drewN (Below.refl _ _) _))⟩
set_option maxHeartbeats 16000000 in
set_option maxRecDepth 100000 in
theorem flywheelref26_Probe_Got.one (g : Nat) (s : PrS) (a1 a2 a3 a4 : Int) (w0 w : World) (hI : IsS45 w0 w g s) (hB : Below w0.heap.size w0 w) (hl : s.l.length < 1000000) (x : RCl) (r : Int) (hm : flywheelref26_may.f a2 a3 = some true) (h1 : ¬ a1 < 1) (h2 : ¬ (s.l.length : Int) < a1) (h3 : ¬ a1 ≤ (s.l.length : Int) - 4) (h5 : ¬ a4 < -1125899906842624) (h6 : ¬ 1125899906842624 < a4) (hx : s.l[(a1 - 1).toNat]? = some x) (hxl : x.l.length < 900000) (hr : flywheelref26_cluster_result.f x.by_ (x.l ++ [(a2, a3, a4)]) = some r) :
  Calls Try.prog 11 #[.pointer (some ⟨g, 0, none⟩), .int .i64 a1, .int .i64 a2, .int .i64 a3, .int .i64 a4] w fun e w' => e = .returned (.int .i64 r) ∧ IsS45 w0 w' g ⟨mx s.b r, s.l.set (a1 - 1).toNat ⟨x.ra, x.by_, x.se, x.l ++ [(a2, a3, a4)]⟩⟩ ∧ Below w0.heap.size w0 w' ∧ KeepR w w' := by
 have HS := Aside0.mk hI
 have HB0 := Aside0.mk hB
 have HM := Aside0.mk hm
 have HRR := Aside0.mk hr
 obtain ⟨A, n, c, vs, g1, g2, g3, g4⟩ := hI
 have hn : n = s.l.length := (Kd.R_reads' g3).1.trans g4.len
 rw [← hn] at h2 h3 hl
 obtain ⟨j4, hj4⟩ : ∃ j, IntKind.i64.wrap ((n : Int) - 4) = j := ⟨_, rfl⟩
 have hj4b : j4 = (n : Int) - 4 := by rw [← hj4, i64_w]; unfold wrap64; omega
 rw [← hj4b] at h3
 obtain ⟨ji, hji⟩ : ∃ j, IntKind.i64.wrap (a1 - 1) = j := ⟨_, rfl⟩
 have hjib : ji = a1 - 1 := by rw [← hji, i64_w]; unfold wrap64; omega
 rw [← hjib] at hx ⊢
 have p0 : 0 ≤ ji := by omega
 have q0 : ji < (n : Int) := by omega
 have c1b : decide (a1 < 1) = false := decide_eq_false h1
 have c2b : decide ((n : Int) < a1) = false := decide_eq_false h2
 have c3b : decide (a1 ≤ j4) = false := decide_eq_false h3
 have c5b : decide (a4 < -1125899906842624) = false := decide_eq_false h5
 have c6b : decide (1125899906842624 < a4) = false := decide_eq_false h6
 obtain ⟨v, hv, hcr⟩ := g4.at_ ji.toNat x hx
 obtain ⟨b, e1, hbge, ⟨cs, hbk⟩, hbf, hx0, hx1, hx2, hx3⟩ := own_kC g3 ji p0 q0 hv
 subst e1
 obtain ⟨v0, v1_, v2_, vA, vn, vc⟩ := v
 replace hx3 : w.cell? ⟨b, ji.toNat * 4 + 3, none⟩ = some (.slice vA vn vc) := hx3
 have X3 := Aside0.mk hx3
 have hg_0 : w.cell? ⟨g, 0, none⟩ = some (.slice (some ⟨b, 0, none⟩) n c) := (blk_cell g1 0).trans rfl
 obtain ⟨r0, r1, r2, s1, s2, s3, s4⟩ := hcr
 replace s1 : vn = x.l.length := s1
 have HC := Aside0.mk (show Kd.C kS w vA vn x.l from by rw [s1]; exact s3)
 have HLX := Aside0.mk (And.intro hxl s1)
 have HALL := Aside0.mk (And.intro g1 (And.intro g2 (And.intro g3 (And.intro g4 (And.intro hn (And.intro p0 (And.intro q0 (And.intro hv (And.intro hbge (And.intro hbk (And.intro r0 (And.intro r1 r2))))))))))))
 obtain ⟨bb, hbb⟩ : ∃ bb, (if s.b < r then r else s.b) = bb := ⟨_, rfl⟩
 have hbb2 : mx s.b r = bb := hbb
 rw [hbb2]
 clear hbb2
 clear g1 g2 g3 g4 hn hB hm hr hl h1 h2 h3 h5 h6 hj4b hjib hbf hx0 hx1 hx2 hv hbge hbk r0 r1 r2 s1 s2 s3 s4 hxl hx
 replace p0 := eq_true p0
 replace q0 := eq_true q0
 go_enter Try.func11, Try.ntmps11
 go_upto_region 5 with (first | (go_at_call 21; (with_reducible refine (flywheelref26_may.calls a2 a3 _ _ HM.out).mono ?_); rintro e w5 ⟨rfl, hd⟩; have HB : Aside0 (Below w.heap.size w w5) := ⟨by obtain ⟨nd, rfl⟩ := hd; exact pw_below_drewN (Below.refl _ _) _⟩; clear hd hg_0 hx3; have hg_0 := pw_cell_below HB.out (show w.cell? ⟨g, 0, none⟩ = some (.slice (some ⟨b, 0, none⟩) n c) from (blk_cell HALL.out.1 0).trans rfl); have hx3 := pw_cell_below HB.out X3.out) | ((with_reducible refine gate_dst (N := 56) rfl ?_); refine Kd.R_lit kS (w0 := w) w.heap.size 57 ?hg (N := 56) ?hd (xs := ([] : List (Int × Int × Int))) (inner := []) (ok := fun _ => True) (okp := fun _ => False) ?hr ?hp (fun _ h => h.elim) trivial ?hB ?hS (by decide) ?_; (case hd => rfl); (case hg => rfl); (case hr => first | (go_simp; done) | (go_simp; rfl)); (case hp => exact ⟨rfl, fun j p hj => by simp at hj⟩); (case hB => exact HB.out); (case hS => exact HB.out.size); intro v1 w6 HO1' hb6 hg6 hat6; have HO1 := Aside0.mk HO1'; clear HO1' hg6 hat6 HB hx3; have HB := Aside0.mk hb6; clear hb6; have hx3 := pw_cell_below HB.out X3.out) | ((with_reducible refine gate_builtin (b := .append) (xs := #[.tmp 56, .tmp 60]) rfl ?_); at_builtin; refine Kd.R_append_rows kS (Rr := kS.K w6) (w0 := w) w.heap.size rfl (.tmp 56) (.tmp 60) 50 57 (.agg #[.int .i64 0, .int .i64 0, .int .i64 0]) 24 rfl Try.underlying50 (by kernel_rfl) rfl (by decide) (by omega) v1 [] x.l vA vn vc (fun _ => True) (fun _ => False) rfl rfl ?aO ?aR (fun x cs h => by rw [kS_open h]; exact kS_mkM _ _ _ _) (fun _ h => h.elim) ?aF ?aB ?aS ?aL ?_; (case aO => exact HO1.out); (case aR => exact Kd.C_below HC.out HB.out); (case aF => exact fun _ _ => trivial); (case aB => exact HB.out); (case aS => exact HB.out.size); (case aL => have := HLX.out; simp only [List.length_nil]; omega); intro v2 w7 HO2' hb7 hg7 hat7; rw [List.nil_append] at HO2'; have HO2 := Aside0.mk HO2'; clear HO1 HO2' hg7 hat7 HB hx3; have HB := Aside0.mk hb7; clear hb7) | ((with_reducible refine gate_builtin (b := .append) (xs := #[.tmp 61, .tmp 66]) rfl ?_); at_builtin; refine Kd.R_append kS (w0 := w) w.heap.size rfl (.tmp 61) (.tmp 66) 50 57 (.agg #[.int .i64 0, .int .i64 0, .int .i64 0]) 24 rfl Try.underlying50 (by kernel_rfl) rfl (by decide) (by omega) v2 x.l (a2, a3, a4) [.int .i64 a2, .int .i64 a3, .int .i64 a4] (fun _ => True) (fun _ => False) rfl rfl ?aP (fun _ h => h.elim) ?aF ?aO ?aB ?aS ?aL ?_; (case aP => exact kS_mkM _ _ _ _); (case aF => exact fun _ _ => trivial); (case aO => exact HO2.out); (case aB => exact HB.out); (case aS => exact HB.out.size); (case aL => have := HLX.out; omega); intro v3 w9 HO4' hb9 hg9 hat9; obtain ⟨A3, c3, e3⟩ := Kd.R_slice HO4'; subst e3; have HO4 := Aside0.mk HO4'; clear HO2 HO4' hg9 hat9 HB; have HB := Aside0.mk hb9; clear hb9; have hx3 := pw_cell_below HB.out X3.out; have hf3 := blk_frozen (blk_below HALL.out.2.2.2.2.2.2.2.2.2.1 HB.out) (ji.toNat * 4 + 3)))
 clear hg_0 hx3 hf3 p0 q0
 obtain ⟨g1, g2, g3, g4, hn, p1, q1, hv, hbge, hbk, r0, r1, r2⟩ := HALL.out
 have hln : (x.l ++ [(a2, a3, a4)]).length = x.l.length + 1 := by simp
 have ho4 := HO4.out
 rw [hln] at ho4
 obtain ⟨hR, hG⟩ := put_kC (Kd.R_below g3 HB.out) ji p1 q1 (v' := (v0, v1_, v2_, A3, x.l.length + 1, c3)) hv 3 (.slice A3 (x.l.length + 1) c3) rfl rfl (by omega)
 have hb9 := blk_below hbk HB.out
 have h57 : ∀ (i : Nat) (cs : Array Value), w9.heap[i]? = some (.cells cs 57 (0, 0)) → (w9.setCell ⟨b, ji.toNat * 4 + 3, none⟩ (.slice A3 (x.l.length + 1) c3)).heap[i]? = some (.cells cs 57 (0, 0)) := fun i cs' hi => (hG.block i (blk_lt hi) (fun e => by injection e with e; subst e; rw [hi] at hb9; injection hb9 with hb9; injection hb9 with _ hb9; exact absurd hb9 (by decide))).trans hi
 have hS := Smp.own (row_types57 (Kd.R_lower ho4 HB0.out.size) h57)
 have HS10 := Aside0.mk (show IsS45 w0 (w9.setCell ⟨b, ji.toNat * 4 + 3, none⟩ (.slice A3 (x.l.length + 1) c3)) g ⟨s.b, s.l.set ji.toNat ⟨x.ra, x.by_, x.se, x.l ++ [(a2, a3, a4)]⟩⟩ from IsS45.put (blk_below g1 HB.out) g2 (g4.same HB.out.size (fun i cs' hi => blk_below hi HB.out)) hb9 hG hR rfl (fun h => h.set (x := ⟨x.ra, x.by_, x.se, x.l ++ [(a2, a3, a4)]⟩) (v := (v0, v1_, v2_, A3, x.l.length + 1, c3)) ⟨r0, r1, r2, hS⟩ _))
 obtain ⟨b_, e1, _, _, _, y0, y1, y2, y3⟩ := own_kC hR ji p1 q1 (v := (v0, v1_, v2_, A3, x.l.length + 1, c3)) (by rw [List.getElem?_set_self (by have := (List.getElem?_eq_some_iff.1 hv).1; omega)])
 obtain rfl : b = b_ := by injection e1 with e1; injection e1
 have Y1 := Aside0.mk (show (w9.setCell ⟨b, ji.toNat * 4 + 3, none⟩ (.slice A3 (x.l.length + 1) c3)).cell? ⟨b, ji.toNat * 4 + 1, none⟩ = some (.int .i64 x.by_) from by rw [← r1]; exact y1)
 have Y3 := Aside0.mk (show (w9.setCell ⟨b, ji.toNat * 4 + 3, none⟩ (.slice A3 (x.l.length + 1) c3)).cell? ⟨b, ji.toNat * 4 + 3, none⟩ = some (.slice A3 (x.l.length + 1) c3) from y3)
 have Y4 := Aside0.mk (show Kd.C kS (w9.setCell ⟨b, ji.toNat * 4 + 3, none⟩ (.slice A3 (x.l.length + 1) c3)) A3 (x.l.length + 1) (x.l ++ [(a2, a3, a4)]) from by have h_ := hS.2.2.1; rw [hln] at h_; exact h_)
 have HB10 := Aside0.mk (show Below w0.heap.size w0 (w9.setCell ⟨b, ji.toNat * 4 + 3, none⟩ (.slice A3 (x.l.length + 1) c3)) from below_set (below_step HB0.out HB.out) hbge)
 have HK10 := Aside0.mk (show KeepR w (w9.setCell ⟨b, ji.toNat * 4 + 3, none⟩ (.slice A3 (x.l.length + 1) c3)) from KeepR.grown ((KeepR.refl w).below HB.out) hG hb9 (.inr (.inl rfl)))
 have HGE := Aside0.mk g2
 have HLN := Aside0.mk hln
 clear g1 g2 g3 g4 hn p1 q1 hv hbge hbk r0 r1 r2 hln ho4 hR hG hb9 h57 hS e1 y0 y1 y2 y3 HALL HB HO4
 generalize (w9.setCell ⟨b, ji.toNat * 4 + 3, none⟩ (.slice A3 (x.l.length + 1) c3)) = w10 at HS10 Y1 Y3 Y4 HB10 HK10 ⊢
 go_wp2_with (first | ((with_reducible refine gate_callee (f := 23) rfl ?_); refine goesL_ (some 71) rfl rfl Try.func23 (by kernel_rfl) rfl #[.pointer (some ⟨b, ji.toNat * 4, none⟩)] rfl (by (try simp only [List.map_toArray, List.map_cons, List.map_nil]); first | done | rfl) ?_; (refine (flywheelref26_cluster_result.calls b (ji.toNat * 4) x.by_ A3 (x.l.length + 1) c3 (x.l ++ [(a2, a3, a4)]) r _ Y1.out Y3.out Y4.out HLN.out.symm (by have := HLX.out; rw [HLN.out]; omega) HRR.out).mono ?_); rintro e w11 ⟨rfl, hb⟩; refine ⟨_, rfl, ?_⟩; have HS11 := Aside0.mk (HS10.out.below hb); have HB11 := Aside0.mk (below_step HB10.out hb); have HK11 := Aside0.mk (HK10.out.below hb); clear HS10 HB10 HK10 Y1 Y3 Y4 hb; obtain ⟨A_, n_, c_, vs_, k1, k2, k3, k4⟩ := HS11.out; have hg1_ : w11.cell? ⟨g, 1, none⟩ = some (.int .i64 s.b) := (blk_cell k1 1).trans rfl; have hgf_ := blk_frozen k1 1; have KK := Aside0.mk k1; clear k1 k2 k3 k4))
 go_ret
 exact ⟨rfl, HS11.out.setb bb, below_set HB11.out HGE.out, HK11.out.set KK.out (.inl rfl)⟩
theorem flywheelref26_Probe_Got.calls (g : Nat) (s0_0 : PrS) (a1 a2 a3 a4 : Int) (r1 : Int) (r2 : PrS) (w0 w : World) (hI : IsS45 w0 w g s0_0) (hB : Below w0.heap.size w0 w) (h : flywheelref26_Probe_Got.f s0_0 a1 a2 a3 a4 = some (r1, r2)) :
  Calls Try.prog 11 #[.pointer (some ⟨g, 0, none⟩), .int .i64 a1, .int .i64 a2, .int .i64 a3, .int .i64 a4] w fun e w' => e = .returned (.int .i64 r1) ∧ IsS45 w0 w' g r2 ∧ Below w0.heap.size w0 w' ∧ KeepR w w' := by
 obtain ⟨t, hm⟩ : ∃ t, flywheelref26_may.f a2 a3 = some t := by unfold flywheelref26_may.f; split <;> (try split) <;> (try split) <;> exact ⟨_, rfl⟩
 unfold flywheelref26_Probe_Got.f at h
 by_cases hl : s0_0.l.length < 1000000
 rotate_left
 ·rw [if_neg hl] at h; cases h
 rw [if_pos hl] at h
 by_cases c1 : a1 < 1
 ·rw [if_pos c1] at h
  simp only [Option.some.injEq, Prod.mk.injEq] at h
  obtain ⟨rfl, rfl⟩ := h
  exact flywheelref26_Probe_Got.none_ g s0_0 a1 a2 a3 a4 w0 w hI hB hl t hm (.inl c1)
 rw [if_neg c1] at h
 by_cases c2 : (s0_0.l.length : Int) < a1
 ·rw [if_pos c2] at h
  simp only [Option.some.injEq, Prod.mk.injEq] at h
  obtain ⟨rfl, rfl⟩ := h
  exact flywheelref26_Probe_Got.none_ g s0_0 a1 a2 a3 a4 w0 w hI hB hl t hm (.inr (.inl c2))
 rw [if_neg c2] at h
 by_cases c3 : a1 ≤ (s0_0.l.length : Int) - 4
 ·rw [if_pos c3] at h
  simp only [Option.some.injEq, Prod.mk.injEq] at h
  obtain ⟨rfl, rfl⟩ := h
  exact flywheelref26_Probe_Got.none_ g s0_0 a1 a2 a3 a4 w0 w hI hB hl t hm (.inr (.inr (.inl c3)))
 rw [if_neg c3] at h
 rw [hm, Option.bind_some] at h
 cases t with
 | false =>
  rw [if_neg (by simp)] at h
  simp only [Option.some.injEq, Prod.mk.injEq] at h
  obtain ⟨rfl, rfl⟩ := h
  exact flywheelref26_Probe_Got.none_ g s0_0 a1 a2 a3 a4 w0 w hI hB hl false hm (.inr (.inr (.inr (.inl rfl))))
 | true =>
  rw [if_pos rfl] at h
  by_cases c5 : a4 < -1125899906842624
  ·rw [if_pos c5] at h
   simp only [Option.some.injEq, Prod.mk.injEq] at h
   obtain ⟨rfl, rfl⟩ := h
   exact flywheelref26_Probe_Got.none_ g s0_0 a1 a2 a3 a4 w0 w hI hB hl true hm (.inr (.inr (.inr (.inr (.inl c5)))))
  rw [if_neg c5] at h
  by_cases c6 : 1125899906842624 < a4
  ·rw [if_pos c6] at h
   simp only [Option.some.injEq, Prod.mk.injEq] at h
   obtain ⟨rfl, rfl⟩ := h
   exact flywheelref26_Probe_Got.none_ g s0_0 a1 a2 a3 a4 w0 w hI hB hl true hm (.inr (.inr (.inr (.inr (.inr c6)))))
  rw [if_neg c6] at h
  obtain ⟨c, hx, h⟩ := Option.bind_eq_some_iff.mp h
  by_cases hxl : c.l.length < 900000
  rotate_left
  ·rw [if_neg hxl] at h; cases h
  rw [if_pos hxl] at h
  obtain ⟨r, hr, h⟩ := Option.bind_eq_some_iff.mp h
  simp only [Option.some.injEq, Prod.mk.injEq] at h
  obtain ⟨rfl, rfl⟩ := h
  exact flywheelref26_Probe_Got.one g s0_0 a1 a2 a3 a4 w0 w hI hB hl c r hm c1 c2 c3 c5 c6 hx hxl hr
def probe_Probe_Open.f (s0_0 : PbS) : Option (Int × Int × Int × PbS) := if s0_0.o = 0 then some (0, 0, 0, s0_0) else (lk s0_0.l s0_0.o).bind fun x => some (s0_0.o, x.c0, x.c2, s0_0)
def probe_Probe_Open.T3 : Bool × List (List Nat × List Nat) := (true, [([], []), ([0], [0]), ([1], [1]), ([2], [2]), ([], []), ([4], [4]), ([5], [5]), ([6], [6]), ([3, 7], [3, 7]), ([8, 0, 1, 2, 3, 4, 5, 6, 7, 8], [8])])
def probe_Probe_Open.B3 : List Nat := [0, 1, 3, 7, 0, 16, 48, 112, 255, 511]
theorem probe_Probe_Open.tab3 : rtab .any (opsOf Try.f12 3) = probe_Probe_Open.T3 := by kernel_rfl
theorem probe_Probe_Open.bits3 : waitsOk probe_Probe_Open.T3.2 probe_Probe_Open.B3 = true := by kernel_rfl
def probe_Probe_Open.T4 : Bool × List (List Nat × List Nat) := (true, [([], []), ([0], [0]), ([1], [1]), ([2], [2]), ([], []), ([4], [4]), ([5], [5]), ([6], [6]), ([], []), ([8], [8]), ([9], [9]), ([10], [10]), ([3, 0, 1, 2, 3], [3]), ([7, 12, 0, 1, 2, 3, 4, 5, 6, 7, 12], [7]), ([11, 13, 0, 1, 2, 3, 4, 5, 6, 7, 8, 9, 10, 11, 12, 13], [11])])
def probe_Probe_Open.B4 : List Nat := [0, 1, 3, 7, 0, 16, 48, 112, 0, 256, 768, 1792, 15, 4351, 16383]
theorem probe_Probe_Open.tab4 : rtab .any (opsOf Try.f12 4) = probe_Probe_Open.T4 := by kernel_rfl
theorem probe_Probe_Open.bits4 : waitsOk probe_Probe_Open.T4.2 probe_Probe_Open.B4 = true := by kernel_rfl
set_option maxHeartbeats 16000000 in
set_option maxRecDepth 100000 in
theorem probe_Probe_Open.calls (g : Nat) (s0_0 : PbS)  (r1 : Int) (r2 : Int) (r3 : Int) (r4 : PbS) (w0 w : World) (hI : IsS42 w0 w g s0_0) (hB : Below w0.heap.size w0 w) (h : probe_Probe_Open.f s0_0  = some (r1, r2, r3, r4)) :
  Calls Try.prog 12 #[.pointer (some ⟨g, 0, none⟩)] w fun e w' => e = .returned (.tuple #[.int .i64 r1, .int .i64 r2, .int .i64 r3]) ∧ IsS42 w0 w' g r4 ∧ Below w0.heap.size w0 w' ∧ KeepT w w' := by
 have hpn23_eql : ∀ (a_ : Addr) (W_ : World), (Go.binOp .eql 23 (.pointer (some a_)) (.pointer none)).run Try.prog W_ = .ok (.bool false) W_ := fun _ _ => by kernel_rfl
 have hpn47_eql : ∀ (a_ : Addr) (W_ : World), (Go.binOp .eql 47 (.pointer (some a_)) (.pointer none)).run Try.prog W_ = .ok (.bool false) W_ := fun _ _ => by kernel_rfl
 simp only [probe_Probe_Open.f] at h
 by_cases c1 : s0_0.o = 0
 ·rw [if_pos c1] at h
  simp only [Option.some.injEq, Prod.mk.injEq] at h
  obtain ⟨rfl, rfl, rfl, rfl⟩ := h
  have c1b : (s0_0.o == 0) = true := beq_iff_eq.mpr c1
  clear c1
  have HS := Aside0.mk hI
  obtain ⟨m, L, h0, hL⟩ := hI
  have HB := Aside0.mk hB
  clear hB
  have hg_0 : w.cell? ⟨g, 0, none⟩ = some (.map (some m)) := (blk_cell h0.blk 0).trans rfl
  have hg_1 : w.cell? ⟨g, 1, none⟩ = some (.int .i64 s0_0.n) := (blk_cell h0.blk 1).trans rfl
  have hg_2 : w.cell? ⟨g, 2, none⟩ = some (.int .i64 s0_0.o) := (blk_cell h0.blk 2).trans rfl
  have hg_3 : w.cell? ⟨g, 3, none⟩ = some (.int .i64 s0_0.b) := (blk_cell h0.blk 3).trans rfl
  have hfg_0 := blk_frozen h0.blk 0
  have hfg_1 := blk_frozen h0.blk 1
  have hfg_2 := blk_frozen h0.blk 2
  have hfg_3 := blk_frozen h0.blk 3
  clear h0 hL
  go_enter Try.func12, Try.ntmps12
  go_wp2
  refine bodyPost_ret (v := .tuple #[.int .i64 0, .int .i64 0, .int .i64 0]) (by simp [results, Try.results12, go_sem]) rfl ?_
  exact ⟨rfl, by repeat (first | exact HS.out | apply IsS42.alloc | apply IsS42.drewN | apply IsS42.drew), by repeat (first | exact HB.out | apply below_alloc | apply pw_below_drewN | apply below_drew1), by repeat (first | exact KeepT.refl _ | refine KeepT.below ?_ (below_drew (Below.refl _ _)) | refine KeepT.below ?_ (pw_below_drewN (Below.refl _ _) _))⟩
 ·rw [if_neg c1] at h
  obtain ⟨x, hx, h⟩ := Option.bind_eq_some_iff.mp h
  simp only [Option.some.injEq, Prod.mk.injEq] at h
  obtain ⟨rfl, rfl, rfl, rfl⟩ := h
  obtain ⟨m, L, h0, hL⟩ := hI
  rw [hL] at hx
  obtain ⟨L1, c, L2, e_, hn⟩ := lk_split hx
  subst e_
  have c1b : (s0_0.o == 0) = false := beq_eq_false_iff_ne.mpr c1
  rw [rows_mid] at h0
  have HP := Aside0.mk (show PF w0 w w g m s0_0.n s0_0.o s0_0.b (keysOf (L1 ++ (s0_0.o, c, x) :: L2)) (rowsOf L1 ++ (c, cluC x) :: rowsOf L2) from ⟨h0, hB, KeepT.refl w⟩)
  have HF := Aside0.mk (keys_find (L2 := L2) (c := c) (x := x) hn)
  have hg_0 : w.cell? ⟨g, 0, none⟩ = some (.map (some m)) := (blk_cell h0.blk 0).trans rfl
  have hg_1 : w.cell? ⟨g, 1, none⟩ = some (.int .i64 s0_0.n) := (blk_cell h0.blk 1).trans rfl
  have hg_2 : w.cell? ⟨g, 2, none⟩ = some (.int .i64 s0_0.o) := (blk_cell h0.blk 2).trans rfl
  have hg_3 : w.cell? ⟨g, 3, none⟩ = some (.int .i64 s0_0.b) := (blk_cell h0.blk 3).trans rfl
  have hfg_0 := blk_frozen h0.blk 0
  have hfg_1 := blk_frozen h0.blk 1
  have hfg_2 := blk_frozen h0.blk 2
  have hfg_3 := blk_frozen h0.blk 3
  clear h0 hB c1
  go_enter Try.func12, Try.ntmps12
  go_wp2
  clear hg_0 hfg_0 hg_1 hfg_1 hg_2 hfg_2 hg_3 hfg_3
  have n0_ := Aside0.mk (PF.drew HP.out)
  clear HP
  have HP := n0_
  clear n0_
  refine start_ (n := 10) (S := fun w' => w'.cell? ⟨g, 0, none⟩ = some (.map (some m)) ∧ w'.cell? ⟨g, 2, none⟩ = some (.int .i64 s0_0.o) ∧ MapAt w' m (keysOf (L1 ++ (s0_0.o, c, x) :: L2))) (ds := []) #[false, false, false, false, false, false, false, false, false, false] (by kernel_rfl) rfl rfl ⟨(blk_cell HP.out.1.blk 0).trans rfl, (blk_cell HP.out.1.blk 2).trans rfl, HP.out.1.mp⟩ (fun hHeld => ?_); refine with_tabW probe_Probe_Open.tab3 probe_Probe_Open.bits3 (fun HT_ HW_ => ?_)
  generalize World.drew w = w1 at HP hHeld ⊢
  refine pure_ (i := 0) (N := some 15) (v := ?_) (a' := ?_) #[true, false, false, false, false, false, false, false, false, false] rfl rfl (any_of HT_.out (by kernel_rfl)) (fun _ _ _ h => h) (Or.inl ⟨by rfl, ?_⟩) ?_ ?_
  rotate_left
  ·intro w'
   go_simp
   with_reducible rfl
  rotate_left
  ·simp only [Act.put, List.setIfInBounds_toArray, List.set_cons_zero, List.set_cons_succ, i64_w, i32_w]
   rfl
  refine pure_ (i := 1) (N := some 16) (v := ?_) (a' := ?_) #[true, true, false, false, false, false, false, false, false, false] rfl rfl (any_of HT_.out (by kernel_rfl)) (fun _ _ _ h => h) (Or.inl ⟨by rfl, ?_⟩) ?_ ?_
  rotate_left
  ·intro w'
   go_simp
   with_reducible rfl
  rotate_left
  ·simp only [Act.put, List.setIfInBounds_toArray, List.set_cons_zero, List.set_cons_succ, i64_w, i32_w]
   rfl
  refine pure_ (i := 2) (N := some 17) (v := ?_) (a' := ?_) #[true, true, true, false, false, false, false, false, false, false] rfl rfl (any_of HT_.out (by kernel_rfl)) (fun _ _ _ h => h) (Or.inl ⟨by rfl, ?_⟩) ?_ ?_
  rotate_left
  ·intro w'
   go_simp
   with_reducible rfl
  rotate_left
  ·simp only [Act.put, List.setIfInBounds_toArray, List.set_cons_zero, List.set_cons_succ, i64_w, i32_w]
   rfl
  refine take_ (i := 3) (N := some 18) (v := ?_) (a' := ?_) #[true, true, true, true, false, false, false, false, false, false] rfl rfl (take_ofW HT_.out HW_.out (by kernel_rfl)) (fun _ _ _ h => h) (Or.inl ⟨by rfl, ?_⟩) hHeld ?_ ?_
  rotate_left
  ·rintro w' ⟨s0, s1, s2⟩
   go_simp
   with_reducible rfl
  rotate_left
  ·simp only [Act.put, List.setIfInBounds_toArray, List.set_cons_zero, List.set_cons_succ, i64_w, i32_w]
   rfl
  refine pure_ (i := 4) (N := some 19) (v := ?_) (a' := ?_) #[true, true, true, true, true, false, false, false, false, false] rfl rfl (any_of HT_.out (by kernel_rfl)) (fun _ _ _ h => h) (Or.inl ⟨by rfl, ?_⟩) ?_ ?_
  rotate_left
  ·intro w'
   go_simp
   with_reducible rfl
  rotate_left
  ·simp only [Act.put, List.setIfInBounds_toArray, List.set_cons_zero, List.set_cons_succ, i64_w, i32_w]
   rfl
  refine pure_ (i := 5) (N := some 20) (v := ?_) (a' := ?_) #[true, true, true, true, true, true, false, false, false, false] rfl rfl (any_of HT_.out (by kernel_rfl)) (fun _ _ _ h => h) (Or.inl ⟨by rfl, ?_⟩) ?_ ?_
  rotate_left
  ·intro w'
   go_simp
   with_reducible rfl
  rotate_left
  ·simp only [Act.put, List.setIfInBounds_toArray, List.set_cons_zero, List.set_cons_succ, i64_w, i32_w]
   rfl
  refine pure_ (i := 6) (N := some 21) (v := ?_) (a' := ?_) #[true, true, true, true, true, true, true, false, false, false] rfl rfl (any_of HT_.out (by kernel_rfl)) (fun _ _ _ h => h) (Or.inl ⟨by rfl, ?_⟩) ?_ ?_
  rotate_left
  ·intro w'
   go_simp
   with_reducible rfl
  rotate_left
  ·simp only [Act.put, List.setIfInBounds_toArray, List.set_cons_zero, List.set_cons_succ, i64_w, i32_w]
   rfl
  refine take_ (i := 7) (N := some 22) (v := ?_) (a' := ?_) #[true, true, true, true, true, true, true, true, false, false] rfl rfl (take_ofW HT_.out HW_.out (by kernel_rfl)) (fun _ _ _ h => h) (Or.inl ⟨by rfl, ?_⟩) hHeld ?_ ?_
  rotate_left
  ·rintro w' ⟨s0, s1, s2⟩
   go_simp
   with_reducible rfl
  rotate_left
  ·simp only [Act.put, List.setIfInBounds_toArray, List.set_cons_zero, List.set_cons_succ, i64_w, i32_w]
   rfl
  refine take_ (i := 8) (N := some 23) (v := ?_) (a' := ?_) #[true, true, true, true, true, true, true, true, true, false] rfl rfl (take_ofW HT_.out HW_.out (by kernel_rfl)) (fun _ _ _ h => h) (Or.inl ⟨by rfl, ?_⟩) hHeld ?_ ?_
  rotate_left
  ·rintro w' ⟨s0, s1, s2⟩
   have hl_ := look_in Try.underlying40 Try.underlying3 s2 HF.out false
   go_simp
   with_reducible rfl
  rotate_left
  ·simp only [Act.put, List.setIfInBounds_toArray, List.set_cons_zero, List.set_cons_succ, i64_w, i32_w]
   rfl
  refine pure_ (i := 9) (N := some 5) (v := ?_) (a' := ?_) #[true, true, true, true, true, true, true, true, true, true] rfl rfl (any_of HT_.out (by kernel_rfl)) (fun _ _ _ h => h) (Or.inl ⟨by rfl, ?_⟩) ?_ ?_
  rotate_left
  ·intro w'
   go_simp
   with_reducible rfl
  rotate_left
  ·simp only [Act.put, List.setIfInBounds_toArray, List.set_cons_zero, List.set_cons_succ, i64_w, i32_w]
   rfl
  refine done_ (done_of HT_.out (by kernel_rfl)) ?_
  clear hHeld HT_ HW_
  try go_wp2
  have n0_ := Aside0.mk (PF.drew HP.out)
  clear HP
  have HP := n0_
  clear n0_
  refine start_ (n := 15) (S := fun w' => w'.cell? ⟨g, 2, none⟩ = some (.int .i64 s0_0.o) ∧ w'.cell? ⟨c, 0, none⟩ = some (.int .i64 x.c0) ∧ w'.cell? ⟨c, 2, none⟩ = some (.int .i64 x.c2)) (ds := []) #[false, false, false, false, false, false, false, false, false, false, false, false, false, false, false] (by kernel_rfl) rfl rfl ⟨(blk_cell HP.out.1.blk 2).trans rfl, (blk_cell HP.out.1.cb 0).trans rfl, (blk_cell HP.out.1.cb 2).trans rfl⟩ (fun hHeld => ?_); refine with_tabW probe_Probe_Open.tab4 probe_Probe_Open.bits4 (fun HT_ HW_ => ?_)
  generalize World.drew w1 = w2 at HP hHeld ⊢
  refine pure_ (i := 0) (N := some 24) (v := ?_) (a' := ?_) #[true, false, false, false, false, false, false, false, false, false, false, false, false, false, false] rfl rfl (any_of HT_.out (by kernel_rfl)) (fun _ _ _ h => h) (Or.inl ⟨by rfl, ?_⟩) ?_ ?_
  rotate_left
  ·intro w'
   go_simp
   with_reducible rfl
  rotate_left
  ·simp only [Act.put, List.setIfInBounds_toArray, List.set_cons_zero, List.set_cons_succ, i64_w, i32_w]
   rfl
  refine pure_ (i := 1) (N := some 25) (v := ?_) (a' := ?_) #[true, true, false, false, false, false, false, false, false, false, false, false, false, false, false] rfl rfl (any_of HT_.out (by kernel_rfl)) (fun _ _ _ h => h) (Or.inl ⟨by rfl, ?_⟩) ?_ ?_
  rotate_left
  ·intro w'
   go_simp
   with_reducible rfl
  rotate_left
  ·simp only [Act.put, List.setIfInBounds_toArray, List.set_cons_zero, List.set_cons_succ, i64_w, i32_w]
   rfl
  refine pure_ (i := 2) (N := some 26) (v := ?_) (a' := ?_) #[true, true, true, false, false, false, false, false, false, false, false, false, false, false, false] rfl rfl (any_of HT_.out (by kernel_rfl)) (fun _ _ _ h => h) (Or.inl ⟨by rfl, ?_⟩) ?_ ?_
  rotate_left
  ·intro w'
   go_simp
   with_reducible rfl
  rotate_left
  ·simp only [Act.put, List.setIfInBounds_toArray, List.set_cons_zero, List.set_cons_succ, i64_w, i32_w]
   rfl
  refine take_ (i := 3) (N := some 27) (v := ?_) (a' := ?_) #[true, true, true, true, false, false, false, false, false, false, false, false, false, false, false] rfl rfl (take_ofW HT_.out HW_.out (by kernel_rfl)) (fun _ _ _ h => h) (Or.inl ⟨by rfl, ?_⟩) hHeld ?_ ?_
  rotate_left
  ·rintro w' ⟨s0, s1, s2⟩
   go_simp
   with_reducible rfl
  rotate_left
  ·simp only [Act.put, List.setIfInBounds_toArray, List.set_cons_zero, List.set_cons_succ, i64_w, i32_w]
   rfl
  refine pure_ (i := 4) (N := some 28) (v := ?_) (a' := ?_) #[true, true, true, true, true, false, false, false, false, false, false, false, false, false, false] rfl rfl (any_of HT_.out (by kernel_rfl)) (fun _ _ _ h => h) (Or.inl ⟨by rfl, ?_⟩) ?_ ?_
  rotate_left
  ·intro w'
   go_simp
   with_reducible rfl
  rotate_left
  ·simp only [Act.put, List.setIfInBounds_toArray, List.set_cons_zero, List.set_cons_succ, i64_w, i32_w]
   rfl
  refine pure_ (i := 5) (N := some 29) (v := ?_) (a' := ?_) #[true, true, true, true, true, true, false, false, false, false, false, false, false, false, false] rfl rfl (any_of HT_.out (by kernel_rfl)) (fun _ _ _ h => h) (Or.inl ⟨by rfl, ?_⟩) ?_ ?_
  rotate_left
  ·intro w'
   go_simp
   with_reducible rfl
  rotate_left
  ·simp only [Act.put, List.setIfInBounds_toArray, List.set_cons_zero, List.set_cons_succ, i64_w, i32_w]
   rfl
  refine pure_ (i := 6) (N := some 30) (v := ?_) (a' := ?_) #[true, true, true, true, true, true, true, false, false, false, false, false, false, false, false] rfl rfl (any_of HT_.out (by kernel_rfl)) (fun _ _ _ h => h) (Or.inl ⟨by rfl, ?_⟩) ?_ ?_
  rotate_left
  ·intro w'
   go_simp
   with_reducible rfl
  rotate_left
  ·simp only [Act.put, List.setIfInBounds_toArray, List.set_cons_zero, List.set_cons_succ, i64_w, i32_w]
   rfl
  refine take_ (i := 7) (N := some 31) (v := ?_) (a' := ?_) #[true, true, true, true, true, true, true, true, false, false, false, false, false, false, false] rfl rfl (take_ofW HT_.out HW_.out (by kernel_rfl)) (fun _ _ _ h => h) (Or.inl ⟨by rfl, ?_⟩) hHeld ?_ ?_
  rotate_left
  ·rintro w' ⟨s0, s1, s2⟩
   go_simp
   with_reducible rfl
  rotate_left
  ·simp only [Act.put, List.setIfInBounds_toArray, List.set_cons_zero, List.set_cons_succ, i64_w, i32_w]
   rfl
  refine pure_ (i := 8) (N := some 32) (v := ?_) (a' := ?_) #[true, true, true, true, true, true, true, true, true, false, false, false, false, false, false] rfl rfl (any_of HT_.out (by kernel_rfl)) (fun _ _ _ h => h) (Or.inl ⟨by rfl, ?_⟩) ?_ ?_
  rotate_left
  ·intro w'
   go_simp
   with_reducible rfl
  rotate_left
  ·simp only [Act.put, List.setIfInBounds_toArray, List.set_cons_zero, List.set_cons_succ, i64_w, i32_w]
   rfl
  refine pure_ (i := 9) (N := some 33) (v := ?_) (a' := ?_) #[true, true, true, true, true, true, true, true, true, true, false, false, false, false, false] rfl rfl (any_of HT_.out (by kernel_rfl)) (fun _ _ _ h => h) (Or.inl ⟨by rfl, ?_⟩) ?_ ?_
  rotate_left
  ·intro w'
   go_simp
   with_reducible rfl
  rotate_left
  ·simp only [Act.put, List.setIfInBounds_toArray, List.set_cons_zero, List.set_cons_succ, i64_w, i32_w]
   rfl
  refine pure_ (i := 10) (N := some 34) (v := ?_) (a' := ?_) #[true, true, true, true, true, true, true, true, true, true, true, false, false, false, false] rfl rfl (any_of HT_.out (by kernel_rfl)) (fun _ _ _ h => h) (Or.inl ⟨by rfl, ?_⟩) ?_ ?_
  rotate_left
  ·intro w'
   go_simp
   with_reducible rfl
  rotate_left
  ·simp only [Act.put, List.setIfInBounds_toArray, List.set_cons_zero, List.set_cons_succ, i64_w, i32_w]
   rfl
  refine take_ (i := 11) (N := some 35) (v := ?_) (a' := ?_) #[true, true, true, true, true, true, true, true, true, true, true, true, false, false, false] rfl rfl (take_ofW HT_.out HW_.out (by kernel_rfl)) (fun _ _ _ h => h) (Or.inl ⟨by rfl, ?_⟩) hHeld ?_ ?_
  rotate_left
  ·rintro w' ⟨s0, s1, s2⟩
   go_simp
   with_reducible rfl
  rotate_left
  ·simp only [Act.put, List.setIfInBounds_toArray, List.set_cons_zero, List.set_cons_succ, i64_w, i32_w]
   rfl
  refine pure_ (i := 12) (N := some 2) (v := ?_) (a' := ?_) #[true, true, true, true, true, true, true, true, true, true, true, true, true, false, false] rfl rfl (any_of HT_.out (by kernel_rfl)) (fun _ _ _ h => h) (Or.inl ⟨by rfl, ?_⟩) ?_ ?_
  rotate_left
  ·intro w'
   go_simp
   with_reducible rfl
  rotate_left
  ·simp only [Act.put, List.setIfInBounds_toArray, List.set_cons_zero, List.set_cons_succ, i64_w, i32_w]
   rfl
  refine pure_ (i := 13) (N := some 3) (v := ?_) (a' := ?_) #[true, true, true, true, true, true, true, true, true, true, true, true, true, true, false] rfl rfl (any_of HT_.out (by kernel_rfl)) (fun _ _ _ h => h) (Or.inl ⟨by rfl, ?_⟩) ?_ ?_
  rotate_left
  ·intro w'
   go_simp
   with_reducible rfl
  rotate_left
  ·simp only [Act.put, List.setIfInBounds_toArray, List.set_cons_zero, List.set_cons_succ, i64_w, i32_w]
   rfl
  refine pure_ (i := 14) (N := some 4) (v := ?_) (a' := ?_) #[true, true, true, true, true, true, true, true, true, true, true, true, true, true, true] rfl rfl (any_of HT_.out (by kernel_rfl)) (fun _ _ _ h => h) (Or.inl ⟨by rfl, ?_⟩) ?_ ?_
  rotate_left
  ·intro w'
   go_simp
   with_reducible rfl
  rotate_left
  ·simp only [Act.put, List.setIfInBounds_toArray, List.set_cons_zero, List.set_cons_succ, i64_w, i32_w]
   rfl
  refine done_ (done_of HT_.out (by kernel_rfl)) ?_
  clear hHeld HT_ HW_
  go_wp2
  refine bodyPost_ret (v := .tuple #[.int .i64 s0_0.o, .int .i64 x.c0, .int .i64 x.c2]) (by simp [results, Try.results12, go_sem]) rfl ?_
  exact ⟨rfl, ⟨m, L1 ++ (s0_0.o, c, x) :: L2, by rw [rows_mid]; exact HP.out.1, hL⟩, HP.out.2.1, HP.out.2.2⟩
def flywheelref26_Probe_Open.f (s0_0 : PrS) : Option (Int × Int × Int × PrS) := if s0_0.l.length < 1000000 then (match s0_0.l.getLast? with
 | none => some (0, 0, 0, s0_0)
 | some c => if c.se < c.by_ then some ((s0_0.l.length : Int), c.ra, wrap64 (c.by_ - c.se), s0_0) else some (0, 0, 0, s0_0)) else none
theorem flywheelref26_Probe_Open.shut (g : Nat) (s : PrS) (w0 w : World) (hI : IsS45 w0 w g s) (hB : Below w0.heap.size w0 w) (hl : s.l.length < 1000000) (ho : prOpen s = false) :
  Calls Try.prog 13 #[.pointer (some ⟨g, 0, none⟩)] w fun e w' => e = .returned (.agg #[.int .i64 0, .int .i64 0, .int .i64 0]) ∧ IsS45 w0 w' g s ∧ Below w0.heap.size w0 w' ∧ KeepR w w' := by
 have HS := Aside0.mk hI
 have HB := Aside0.mk hB
 clear hI hB
 go_enter Try.func13, Try.ntmps13
 go_wp2_with (first | (go_at_call 18; (with_reducible refine (flywheelref26_Probe_open.calls g s w0 _ (IsS45.alloc HS.out _) hl).mono ?_); rintro e w5 ⟨rfl, hd⟩; rw [ho]; have hb5 : Below w.heap.size w w5 := (by obtain ⟨n, rfl⟩ := hd; exact pw_below_drewN (below_alloc (Below.refl _ _) _) n); have hk5 : w5.heap[w.heap.size]? = some (.cells #[.int .i64 0, .int .i64 0, .int .i64 0] 35 (0, 0)) := (by obtain ⟨n, rfl⟩ := hd; exact blk_drewN (blk_new w _) n); have HB5 := Aside0.mk hb5; have HK5 := Aside0.mk hk5; clear hd hb5; have hbc_0 : w5.cell? ⟨w.heap.size, 0, none⟩ = some (.int .i64 0) := (blk_cell hk5 0).trans rfl; have hbc_1 : w5.cell? ⟨w.heap.size, 1, none⟩ = some (.int .i64 0) := (blk_cell hk5 1).trans rfl; have hbc_2 : w5.cell? ⟨w.heap.size, 2, none⟩ = some (.int .i64 0) := (blk_cell hk5 2).trans rfl; have hbf_0 := blk_frozen hk5 0; have hbf_1 := blk_frozen hk5 1; have hbf_2 := blk_frozen hk5 2; have HK5 := Aside0.mk hk5; clear hk5))
 have hB3 : Below w.heap.size w (((w5.setCell ⟨w.heap.size, 0, none⟩ (.int .i64 0)).setCell ⟨w.heap.size, 1, none⟩ (.int .i64 0)).setCell ⟨w.heap.size, 2, none⟩ (.int .i64 0)) := below_set (below_set (below_set HB5.out (Nat.le_refl _)) (Nat.le_refl _)) (Nat.le_refl _)
 have hK3 := blk_put (cs' := #[.int .i64 0, .int .i64 0, .int .i64 0]) (blk_put (cs' := #[.int .i64 0, .int .i64 0, .int .i64 0]) (blk_put (cs' := #[.int .i64 0, .int .i64 0, .int .i64 0]) HK5.out 0 (.int .i64 0) rfl) 1 (.int .i64 0) rfl) 2 (.int .i64 0) rfl
 clear hbc_0 hbc_1 hbc_2 hbf_0 hbf_1 hbf_2
 generalize (((w5.setCell ⟨w.heap.size, 0, none⟩ (.int .i64 0)).setCell ⟨w.heap.size, 1, none⟩ (.int .i64 0)).setCell ⟨w.heap.size, 2, none⟩ (.int .i64 0)) = w9 at hB3 hK3 ⊢
 refine bodyPost_ret (results_cell_row rfl _ _ w.heap.size 35 #[.int .i64 0, .int .i64 0, .int .i64 0] (0, 0) _ rfl hK3 Try.underlying35 rfl (by kernel_rfl)) rfl ?_
 exact ⟨rfl, HS.out.below hB3, below_step HB.out hB3, (KeepR.refl w).below hB3⟩
def flywheelref26_Probe_Open.T3 : Bool × List (List Nat × List Nat) := (true, [([], []), ([0], [0]), ([1], [1]), ([2], [2]), ([], []), ([4], [4]), ([5], [5]), ([6], [6]), ([7], [7]), ([8], [8]), ([3, 9], [3, 9]), ([10], [10]), ([], []), ([12, 11, 0, 1, 2, 3, 4, 5, 6, 7, 8, 9, 10, 11, 12], [11, 12])])
def flywheelref26_Probe_Open.B3 : List Nat := [0, 1, 3, 7, 0, 16, 48, 112, 240, 496, 1023, 2047, 0, 8191]
theorem flywheelref26_Probe_Open.tab3 : rtab .any (opsOf Try.f13 3) = flywheelref26_Probe_Open.T3 := by kernel_rfl
theorem flywheelref26_Probe_Open.bits3 : waitsOk flywheelref26_Probe_Open.T3.2 flywheelref26_Probe_Open.B3 = true := by kernel_rfl
def flywheelref26_Probe_Open.T4 : Bool × List (List Nat × List Nat) := (true, [([], []), ([0], [0]), ([1], [1]), ([2], [2]), ([3], [3]), ([], []), ([5], [5]), ([], []), ([7], [7]), ([], []), ([9], [9]), ([8, 10], [8, 10]), ([4, 6, 11], [4, 6, 11]), ([12, 0, 1, 2, 3, 4, 5, 6, 7, 8, 9, 10, 11, 12], [12])])
def flywheelref26_Probe_Open.B4 : List Nat := [0, 1, 3, 7, 15, 0, 32, 0, 128, 0, 512, 1920, 4095, 8191]
theorem flywheelref26_Probe_Open.tab4 : rtab .any (opsOf Try.f13 4) = flywheelref26_Probe_Open.T4 := by kernel_rfl
theorem flywheelref26_Probe_Open.bits4 : waitsOk flywheelref26_Probe_Open.T4.2 flywheelref26_Probe_Open.B4 = true := by kernel_rfl
set_option maxHeartbeats 16000000 in
set_option maxRecDepth 100000 in
theorem flywheelref26_Probe_Open.open (g : Nat) (s : PrS) (x : RCl) (w0 w : World) (hI : IsS45 w0 w g s) (hB : Below w0.heap.size w0 w) (hl : s.l.length < 1000000) (hx : s.l.getLast? = some x) (ho : x.se < x.by_) :
  Calls Try.prog 13 #[.pointer (some ⟨g, 0, none⟩)] w fun e w' => e = .returned (.agg #[.int .i64 (s.l.length : Int), .int .i64 x.ra, .int .i64 (wrap64 (x.by_ - x.se))]) ∧ IsS45 w0 w' g s ∧ Below w0.heap.size w0 w' ∧ KeepR w w' := by
 have hop : prOpen s = true := by unfold prOpen; rw [hx]; exact decide_eq_true ho
 have HS := Aside0.mk hI
 have HB0 := Aside0.mk hB
 obtain ⟨A, n, c, vs, h1, h2, h3, h4⟩ := hI
 obtain ⟨hn, ji, hji, hj1, p0, q0, v, hv, hr⟩ := flywheelref26_Probe_open.last h3 h4 hl hx
 obtain ⟨hcA, hcB, hC⟩ := Kd.R_reads' h3
 rw [← hcA] at hC
 obtain ⟨ad, e1, hx0, hx1, hx2, hx3⟩ := at_kC hC ji p0 q0 hv
 subst e1
 obtain ⟨r0, r1, r2, r3⟩ := hr
 rw [r0] at hx0
 rw [r1] at hx1
 rw [r2] at hx2
 have G0 := Aside0.mk (show w.cell? ⟨g, 0, none⟩ = some (.slice (some ad) n c) from (blk_cell h1 0).trans rfl)
 have X0 := Aside0.mk hx0
 have X1 := Aside0.mk hx1
 have X2 := Aside0.mk hx2
 have X3 := Aside0.mk hx3
 have HN := Aside0.mk hn
 clear h1 h2 h3 h4 hx hn hv hC r0 r1 r2 r3 hj1 hcA hcB hx0 hx1 hx2 hx3 hB ho
 replace p0 := eq_true p0
 replace q0 := eq_true q0
 go_enter Try.func13, Try.ntmps13
 go_wp2_with (first | (go_at_call 18; (with_reducible refine (flywheelref26_Probe_open.calls g s w0 _ (IsS45.alloc HS.out _) hl).mono ?_); rintro e w5 ⟨rfl, hd⟩; rw [hop]; have hb5 : Below w.heap.size w w5 := (by obtain ⟨n, rfl⟩ := hd; exact pw_below_drewN (below_alloc (Below.refl _ _) _) n); have hk5 : w5.heap[w.heap.size]? = some (.cells #[.int .i64 0, .int .i64 0, .int .i64 0] 35 (0, 0)) := (by obtain ⟨n, rfl⟩ := hd; exact blk_drewN (blk_new w _) n); have HB := Aside0.mk hb5; have HK := Aside0.mk hk5; clear hd hb5 hk5))
 have n_HB := Aside0.mk (below_step HB.out (below_drew (Below.refl _ _)))
 have n_HK := Aside0.mk (blk_below HK.out (below_drew (Below.refl _ _)))
 clear HB HK
 have HB := n_HB
 have HK := n_HK
 clear n_HB n_HK
 refine start_ (n := 14) (S := fun w' => w'.cell? ⟨g, 0, none⟩ = some (.slice (some ad) n c) ∧ w'.cell? (ad.add (ji.toNat * 4)) = some (.int .i64 x.ra) ∧ w'.cell? ⟨(ad.add (ji.toNat * 4)).block, (ad.add (ji.toNat * 4)).off + 1, none⟩ = some (.int .i64 x.by_) ∧ w'.cell? ⟨(ad.add (ji.toNat * 4)).block, (ad.add (ji.toNat * 4)).off + 2, none⟩ = some (.int .i64 x.se) ∧ w'.cell? ⟨(ad.add (ji.toNat * 4)).block, (ad.add (ji.toNat * 4)).off + 3, none⟩ = some (.slice v.2.2.2.1 v.2.2.2.2.1 v.2.2.2.2.2)) (ds := [13]) #[false, false, false, false, false, false, false, false, false, false, false, false, false, false] (by kernel_rfl) rfl rfl ⟨pw_cell_below HB.out G0.out, pw_cell_below HB.out X0.out, pw_cell_below HB.out X1.out, pw_cell_below HB.out X2.out, pw_cell_below HB.out X3.out⟩ (fun hHeld => ?_); refine with_tabW flywheelref26_Probe_Open.tab3 flywheelref26_Probe_Open.bits3 (fun HT_ HW_ => ?_)
 generalize World.drew w5 = w6 at HB HK hHeld ⊢
 refine pure_ (i := 0) (N := some 8) (v := ?_) (a' := ?_) #[true, false, false, false, false, false, false, false, false, false, false, false, false, false] rfl rfl (any_of HT_.out (by kernel_rfl)) (fun _ _ _ h => h) (Or.inl ⟨by rfl, ?_⟩) ?_ ?_
 rotate_left
 ·intro w'
  go_simp
  with_reducible rfl
 rotate_left
 ·simp only [Act.put, List.setIfInBounds_toArray, List.set_cons_zero, List.set_cons_succ, i64_w, i32_w]
  rfl
 refine pure_ (i := 1) (N := some 9) (v := ?_) (a' := ?_) #[true, true, false, false, false, false, false, false, false, false, false, false, false, false] rfl rfl (any_of HT_.out (by kernel_rfl)) (fun _ _ _ h => h) (Or.inl ⟨by rfl, ?_⟩) ?_ ?_
 rotate_left
 ·intro w'
  go_simp
  with_reducible rfl
 rotate_left
 ·simp only [Act.put, List.setIfInBounds_toArray, List.set_cons_zero, List.set_cons_succ, i64_w, i32_w]
  rfl
 refine pure_ (i := 2) (N := some 10) (v := ?_) (a' := ?_) #[true, true, true, false, false, false, false, false, false, false, false, false, false, false] rfl rfl (any_of HT_.out (by kernel_rfl)) (fun _ _ _ h => h) (Or.inl ⟨by rfl, ?_⟩) ?_ ?_
 rotate_left
 ·intro w'
  go_simp
  with_reducible rfl
 rotate_left
 ·simp only [Act.put, List.setIfInBounds_toArray, List.set_cons_zero, List.set_cons_succ, i64_w, i32_w]
  rfl
 refine take_ (i := 3) (N := some 11) (v := ?_) (a' := ?_) #[true, true, true, true, false, false, false, false, false, false, false, false, false, false] rfl rfl (take_ofW HT_.out HW_.out (by kernel_rfl)) (fun _ _ _ h => h) (Or.inl ⟨by rfl, ?_⟩) hHeld ?_ ?_
 rotate_left
 ·rintro w' ⟨s0, s1, s2, s3, s4⟩
  go_simp
  with_reducible rfl
 rotate_left
 ·simp only [Act.put, List.setIfInBounds_toArray, List.set_cons_zero, List.set_cons_succ, i64_w, i32_w]
  rfl
 refine pure_ (i := 4) (N := some 12) (v := ?_) (a' := ?_) #[true, true, true, true, true, false, false, false, false, false, false, false, false, false] rfl rfl (any_of HT_.out (by kernel_rfl)) (fun _ _ _ h => h) (Or.inl ⟨by rfl, ?_⟩) ?_ ?_
 rotate_left
 ·intro w'
  go_simp
  with_reducible rfl
 rotate_left
 ·simp only [Act.put, List.setIfInBounds_toArray, List.set_cons_zero, List.set_cons_succ, i64_w, i32_w]
  rfl
 refine pure_ (i := 5) (N := some 13) (v := ?_) (a' := ?_) #[true, true, true, true, true, true, false, false, false, false, false, false, false, false] rfl rfl (any_of HT_.out (by kernel_rfl)) (fun _ _ _ h => h) (Or.inl ⟨by rfl, ?_⟩) ?_ ?_
 rotate_left
 ·intro w'
  go_simp
  with_reducible rfl
 rotate_left
 ·simp only [Act.put, List.setIfInBounds_toArray, List.set_cons_zero, List.set_cons_succ, i64_w, i32_w]
  rfl
 refine pure_ (i := 6) (N := some 14) (v := ?_) (a' := ?_) #[true, true, true, true, true, true, true, false, false, false, false, false, false, false] rfl rfl (any_of HT_.out (by kernel_rfl)) (fun _ _ _ h => h) (Or.inl ⟨by rfl, ?_⟩) ?_ ?_
 rotate_left
 ·intro w'
  go_simp
  with_reducible rfl
 rotate_left
 ·simp only [Act.put, List.setIfInBounds_toArray, List.set_cons_zero, List.set_cons_succ, i64_w, i32_w]
  rfl
 refine take_ (i := 7) (N := some 15) (v := ?_) (a' := ?_) #[true, true, true, true, true, true, true, true, false, false, false, false, false, false] rfl rfl (take_ofW HT_.out HW_.out (by kernel_rfl)) (fun _ _ _ h => h) (Or.inl ⟨by rfl, ?_⟩) hHeld ?_ ?_
 rotate_left
 ·rintro w' ⟨s0, s1, s2, s3, s4⟩
  go_simp
  with_reducible rfl
 rotate_left
 ·simp only [Act.put, List.setIfInBounds_toArray, List.set_cons_zero, List.set_cons_succ, i64_w, i32_w]
  rfl
 refine pure_ (i := 8) (N := some 16) (v := ?_) (a' := ?_) #[true, true, true, true, true, true, true, true, true, false, false, false, false, false] rfl rfl (any_of HT_.out (by kernel_rfl)) (fun _ _ _ h => h) (Or.inl ⟨by rfl, ?_⟩) ?_ ?_
 rotate_left
 ·intro w'
  go_simp
  with_reducible rfl
 rotate_left
 ·simp only [Act.put, List.setIfInBounds_toArray, List.set_cons_zero, List.set_cons_succ, i64_w, i32_w]
  rfl
 refine pure_ (i := 9) (N := some 17) (v := ?_) (a' := ?_) #[true, true, true, true, true, true, true, true, true, true, false, false, false, false] rfl rfl (any_of HT_.out (by kernel_rfl)) (fun _ _ _ h => h) (Or.inl ⟨by rfl, ?_⟩) ?_ ?_
 rotate_left
 ·intro w'
  go_simp
  with_reducible rfl
 rotate_left
 ·simp only [Act.put, List.setIfInBounds_toArray, List.set_cons_zero, List.set_cons_succ, i64_w, i32_w]
  rfl
 refine pure_ (i := 10) (N := some 18) (v := ?_) (a' := ?_) #[true, true, true, true, true, true, true, true, true, true, true, false, false, false] rfl rfl (any_of HT_.out (by kernel_rfl)) (fun _ _ _ h => h) (Or.inl ⟨by rfl, ?_⟩) ?_ ?_
 rotate_left
 ·intro w'
  go_simp
  with_reducible rfl
 rotate_left
 ·simp only [Act.put, List.setIfInBounds_toArray, List.set_cons_zero, List.set_cons_succ, i64_w, i32_w]
  rfl
 refine take_ (i := 11) (N := some 19) (v := ?_) (a' := ?_) #[true, true, true, true, true, true, true, true, true, true, true, true, false, false] rfl rfl (take_ofW HT_.out HW_.out (by kernel_rfl)) (fun _ _ _ h => h) (Or.inl ⟨by rfl, ?_⟩) hHeld ?_ ?_
 rotate_left
 ·rintro w' ⟨s0, s1, s2, s3, s4⟩
  go_simp
  with_reducible rfl
 rotate_left
 ·simp only [Act.put, List.setIfInBounds_toArray, List.set_cons_zero, List.set_cons_succ, i64_w, i32_w]
  rfl
 refine one_ (i := 12) (N := some 3) #[true, true, true, true, true, true, true, true, true, true, true, true, true, false] rfl rfl (one_of HT_.out (by kernel_rfl)) (by decide) (fun K hK => ?_)
 refine box_step (by rfl) (N := 3) rfl (cs := #[.int .i64 0, .int .i64 0, .int .i64 0, .slice none 0 0]) (t := 52) (by first | (go_simp; done) | (go_simp; rfl)) ?_
 intro bc hc w7 hbox hb
 have HCB := Aside0.mk (show w.heap.size ≤ bc from by rw [hc]; exact HB.out.size)
 have HC := Aside0.mk hbox
 have n_HB := Aside0.mk (below_step HB.out hb)
 have n_HK := Aside0.mk (blk_below HK.out hb)
 clear HB HK
 have HB := n_HB
 have HK := n_HK
 clear n_HB n_HK
 clear hc hb hbox
 refine hK.out _ _ ⟨pw_cell_below HB.out G0.out, pw_cell_below HB.out X0.out, pw_cell_below HB.out X1.out, pw_cell_below HB.out X2.out, pw_cell_below HB.out X3.out⟩ (fun hHeld => ?_)
 clear hK K
 refine norm_ (a' := ?_) ?_ ?_
 rotate_left
 ·show Act.put _ (some 3) _ = _
  simp only [Act.put, List.setIfInBounds_toArray, List.set_cons_zero, List.set_cons_succ, i64_w, i32_w]
  rfl
 have hsc_0 : w7.cell? ⟨bc, 0, none⟩ = some (.int .i64 0) := (blk_cell HC.out 0).trans rfl
 have hsf_0 := blk_frozen HC.out 0
 have hsc_1 : w7.cell? ⟨bc, 1, none⟩ = some (.int .i64 0) := (blk_cell HC.out 1).trans rfl
 have hsf_1 := blk_frozen HC.out 1
 have hsc_2 : w7.cell? ⟨bc, 2, none⟩ = some (.int .i64 0) := (blk_cell HC.out 2).trans rfl
 have hsf_2 := blk_frozen HC.out 2
 have hsc_3 : w7.cell? ⟨bc, 3, none⟩ = some (.slice none 0 0) := (blk_cell HC.out 3).trans rfl
 have hsf_3 := blk_frozen HC.out 3
 refine last_ (i := 13) (N := none) #[true, true, true, true, true, true, true, true, true, true, true, true, true, true] rfl rfl (one_of HT_.out (by kernel_rfl)) (by decide) (fun K hK => ?_)
 refine skip_ (w1 := ?_) (by rfl) rfl ?_ ?_
 rotate_left
 ·go_simp
  rfl
 clear hsc_0 hsf_0 hsc_1 hsf_1 hsc_2 hsf_2 hsc_3 hsf_3
 have n_HB := Aside0.mk (show Below w.heap.size w ((((w7.setCell ⟨bc, 0, none⟩ (.int .i64 x.ra)).setCell ⟨bc, 1, none⟩ (.int .i64 x.by_)).setCell ⟨bc, 2, none⟩ (.int .i64 x.se)).setCell ⟨bc, 3, none⟩ ((.slice v.2.2.2.1 v.2.2.2.2.1 v.2.2.2.2.2))) from below_set (below_set (below_set (below_set (HB.out) HCB.out) HCB.out) HCB.out) HCB.out)
 have n_HK := Aside0.mk (blk_far (p := ⟨bc, 3, none⟩) (blk_far (p := ⟨bc, 2, none⟩) (blk_far (p := ⟨bc, 1, none⟩) (blk_far (p := ⟨bc, 0, none⟩) (HK.out) (bkt HK.out HC.out (by decide)) (.int .i64 x.ra)) (bkt HK.out HC.out (by decide)) (.int .i64 x.by_)) (bkt HK.out HC.out (by decide)) (.int .i64 x.se)) (bkt HK.out HC.out (by decide)) ((.slice v.2.2.2.1 v.2.2.2.2.1 v.2.2.2.2.2)))
 have n_HC := Aside0.mk (blk_put (cs' := #[.int .i64 x.ra, .int .i64 x.by_, .int .i64 x.se, (.slice v.2.2.2.1 v.2.2.2.2.1 v.2.2.2.2.2)]) (blk_put (cs' := #[.int .i64 x.ra, .int .i64 x.by_, .int .i64 x.se, .slice none 0 0]) (blk_put (cs' := #[.int .i64 x.ra, .int .i64 x.by_, .int .i64 0, .slice none 0 0]) (blk_put (cs' := #[.int .i64 x.ra, .int .i64 0, .int .i64 0, .slice none 0 0]) (HC.out) 0 (.int .i64 x.ra) rfl) 1 (.int .i64 x.by_) rfl) 2 (.int .i64 x.se) rfl) 3 ((.slice v.2.2.2.1 v.2.2.2.2.1 v.2.2.2.2.2)) rfl)
 clear HC HB HK
 have HC := n_HC
 have HB := n_HB
 have HK := n_HK
 clear n_HC n_HB n_HK
 generalize ((((w7.setCell ⟨bc, 0, none⟩ (.int .i64 x.ra)).setCell ⟨bc, 1, none⟩ (.int .i64 x.by_)).setCell ⟨bc, 2, none⟩ (.int .i64 x.se)).setCell ⟨bc, 3, none⟩ ((.slice v.2.2.2.1 v.2.2.2.2.1 v.2.2.2.2.2))) = w8 at HC HB HK ⊢
 refine hK.out _ _ ?_
 clear hK K
 refine done_ (done_of HT_.out (by kernel_rfl)) ?_
 clear hHeld HT_ HW_
 try go_wp2
 have n_HB := Aside0.mk (below_step HB.out (below_drew (Below.refl _ _)))
 have n_HK := Aside0.mk (blk_below HK.out (below_drew (Below.refl _ _)))
 have n_HC := Aside0.mk (blk_below HC.out (below_drew (Below.refl _ _)))
 clear HB HK HC
 have HB := n_HB
 have HK := n_HK
 have HC := n_HC
 clear n_HB n_HK n_HC
 refine start_ (n := 14) (S := fun w' => w'.cell? ⟨g, 0, none⟩ = some (.slice (some ad) n c) ∧ w'.cell? ⟨bc, 0, none⟩ = some (.int .i64 x.ra) ∧ w'.cell? ⟨bc, 1, none⟩ = some (.int .i64 x.by_) ∧ w'.cell? ⟨bc, 2, none⟩ = some (.int .i64 x.se)) (ds := [13]) #[false, false, false, false, false, false, false, false, false, false, false, false, false, false] (by kernel_rfl) rfl rfl ⟨pw_cell_below HB.out G0.out, (blk_cell HC.out 0).trans rfl, (blk_cell HC.out 1).trans rfl, (blk_cell HC.out 2).trans rfl⟩ (fun hHeld => ?_); refine with_tabW flywheelref26_Probe_Open.tab4 flywheelref26_Probe_Open.bits4 (fun HT_ HW_ => ?_)
 generalize World.drew w8 = w9 at HB HK HC hHeld ⊢
 refine pure_ (i := 0) (N := some 20) (v := ?_) (a' := ?_) #[true, false, false, false, false, false, false, false, false, false, false, false, false, false] rfl rfl (any_of HT_.out (by kernel_rfl)) (fun _ _ _ h => h) (Or.inl ⟨by rfl, ?_⟩) ?_ ?_
 rotate_left
 ·intro w'
  go_simp
  with_reducible rfl
 rotate_left
 ·simp only [Act.put, List.setIfInBounds_toArray, List.set_cons_zero, List.set_cons_succ, i64_w, i32_w]
  rfl
 refine pure_ (i := 1) (N := some 21) (v := ?_) (a' := ?_) #[true, true, false, false, false, false, false, false, false, false, false, false, false, false] rfl rfl (any_of HT_.out (by kernel_rfl)) (fun _ _ _ h => h) (Or.inl ⟨by rfl, ?_⟩) ?_ ?_
 rotate_left
 ·intro w'
  go_simp
  with_reducible rfl
 rotate_left
 ·simp only [Act.put, List.setIfInBounds_toArray, List.set_cons_zero, List.set_cons_succ, i64_w, i32_w]
  rfl
 refine pure_ (i := 2) (N := some 22) (v := ?_) (a' := ?_) #[true, true, true, false, false, false, false, false, false, false, false, false, false, false] rfl rfl (any_of HT_.out (by kernel_rfl)) (fun _ _ _ h => h) (Or.inl ⟨by rfl, ?_⟩) ?_ ?_
 rotate_left
 ·intro w'
  go_simp
  with_reducible rfl
 rotate_left
 ·simp only [Act.put, List.setIfInBounds_toArray, List.set_cons_zero, List.set_cons_succ, i64_w, i32_w]
  rfl
 refine take_ (i := 3) (N := some 23) (v := ?_) (a' := ?_) #[true, true, true, true, false, false, false, false, false, false, false, false, false, false] rfl rfl (take_ofW HT_.out HW_.out (by kernel_rfl)) (fun _ _ _ h => h) (Or.inl ⟨by rfl, ?_⟩) hHeld ?_ ?_
 rotate_left
 ·rintro w' ⟨s0, s1, s2, s3⟩
  go_simp
  with_reducible rfl
 rotate_left
 ·simp only [Act.put, List.setIfInBounds_toArray, List.set_cons_zero, List.set_cons_succ, i64_w, i32_w]
  rfl
 refine pure_ (i := 4) (N := some 24) (v := ?_) (a' := ?_) #[true, true, true, true, true, false, false, false, false, false, false, false, false, false] rfl rfl (any_of HT_.out (by kernel_rfl)) (fun _ _ _ h => h) (Or.inl ⟨by rfl, ?_⟩) ?_ ?_
 rotate_left
 ·intro w'
  go_simp
  with_reducible rfl
 rotate_left
 ·simp only [Act.put, List.setIfInBounds_toArray, List.set_cons_zero, List.set_cons_succ, i64_w, i32_w]
  rfl
 refine pure_ (i := 5) (N := some 25) (v := ?_) (a' := ?_) #[true, true, true, true, true, true, false, false, false, false, false, false, false, false] rfl rfl (any_of HT_.out (by kernel_rfl)) (fun _ _ _ h => h) (Or.inl ⟨by rfl, ?_⟩) ?_ ?_
 rotate_left
 ·intro w'
  go_simp
  with_reducible rfl
 rotate_left
 ·simp only [Act.put, List.setIfInBounds_toArray, List.set_cons_zero, List.set_cons_succ, i64_w, i32_w]
  rfl
 refine take_ (i := 6) (N := some 26) (v := ?_) (a' := ?_) #[true, true, true, true, true, true, true, false, false, false, false, false, false, false] rfl rfl (take_ofW HT_.out HW_.out (by kernel_rfl)) (fun _ _ _ h => h) (Or.inl ⟨by rfl, ?_⟩) hHeld ?_ ?_
 rotate_left
 ·rintro w' ⟨s0, s1, s2, s3⟩
  go_simp
  with_reducible rfl
 rotate_left
 ·simp only [Act.put, List.setIfInBounds_toArray, List.set_cons_zero, List.set_cons_succ, i64_w, i32_w]
  rfl
 refine pure_ (i := 7) (N := some 27) (v := ?_) (a' := ?_) #[true, true, true, true, true, true, true, true, false, false, false, false, false, false] rfl rfl (any_of HT_.out (by kernel_rfl)) (fun _ _ _ h => h) (Or.inl ⟨by rfl, ?_⟩) ?_ ?_
 rotate_left
 ·intro w'
  go_simp
  with_reducible rfl
 rotate_left
 ·simp only [Act.put, List.setIfInBounds_toArray, List.set_cons_zero, List.set_cons_succ, i64_w, i32_w]
  rfl
 refine take_ (i := 8) (N := some 28) (v := ?_) (a' := ?_) #[true, true, true, true, true, true, true, true, true, false, false, false, false, false] rfl rfl (take_ofW HT_.out HW_.out (by kernel_rfl)) (fun _ _ _ h => h) (Or.inl ⟨by rfl, ?_⟩) hHeld ?_ ?_
 rotate_left
 ·rintro w' ⟨s0, s1, s2, s3⟩
  go_simp
  with_reducible rfl
 rotate_left
 ·simp only [Act.put, List.setIfInBounds_toArray, List.set_cons_zero, List.set_cons_succ, i64_w, i32_w]
  rfl
 refine pure_ (i := 9) (N := some 29) (v := ?_) (a' := ?_) #[true, true, true, true, true, true, true, true, true, true, false, false, false, false] rfl rfl (any_of HT_.out (by kernel_rfl)) (fun _ _ _ h => h) (Or.inl ⟨by rfl, ?_⟩) ?_ ?_
 rotate_left
 ·intro w'
  go_simp
  with_reducible rfl
 rotate_left
 ·simp only [Act.put, List.setIfInBounds_toArray, List.set_cons_zero, List.set_cons_succ, i64_w, i32_w]
  rfl
 refine take_ (i := 10) (N := some 30) (v := ?_) (a' := ?_) #[true, true, true, true, true, true, true, true, true, true, true, false, false, false] rfl rfl (take_ofW HT_.out HW_.out (by kernel_rfl)) (fun _ _ _ h => h) (Or.inl ⟨by rfl, ?_⟩) hHeld ?_ ?_
 rotate_left
 ·rintro w' ⟨s0, s1, s2, s3⟩
  go_simp
  with_reducible rfl
 rotate_left
 ·simp only [Act.put, List.setIfInBounds_toArray, List.set_cons_zero, List.set_cons_succ, i64_w, i32_w]
  rfl
 refine pure_ (i := 11) (N := some 31) (v := ?_) (a' := ?_) #[true, true, true, true, true, true, true, true, true, true, true, true, false, false] rfl rfl (any_of HT_.out (by kernel_rfl)) (fun _ _ _ h => h) (Or.inl ⟨by rfl, ?_⟩) ?_ ?_
 rotate_left
 ·intro w'
  go_simp
  with_reducible rfl
 rotate_left
 ·simp only [Act.put, List.setIfInBounds_toArray, List.set_cons_zero, List.set_cons_succ, i64_w, i32_w]
  rfl
 refine pure_ (i := 12) (N := some 32) (v := ?_) (a' := ?_) #[true, true, true, true, true, true, true, true, true, true, true, true, true, false] rfl rfl (any_of HT_.out (by kernel_rfl)) (fun _ _ _ h => h) (Or.inl ⟨by rfl, ?_⟩) ?_ ?_
 rotate_left
 ·intro w'
  go_simp
  with_reducible rfl
 rotate_left
 ·simp only [Act.put, List.setIfInBounds_toArray, List.set_cons_zero, List.set_cons_succ, i64_w, i32_w]
  rfl
 have HWW := Aside0.mk (Nat.le_refl w.heap.size)
 have HC' := Aside0.mk HC.out
 clear HC
 have hsc_0 : w9.cell? ⟨w.heap.size, 0, none⟩ = some (.int .i64 0) := (blk_cell HK.out 0).trans rfl
 have hsf_0 := blk_frozen HK.out 0
 have hsc_1 : w9.cell? ⟨w.heap.size, 1, none⟩ = some (.int .i64 0) := (blk_cell HK.out 1).trans rfl
 have hsf_1 := blk_frozen HK.out 1
 have hsc_2 : w9.cell? ⟨w.heap.size, 2, none⟩ = some (.int .i64 0) := (blk_cell HK.out 2).trans rfl
 have hsf_2 := blk_frozen HK.out 2
 refine last_ (i := 13) (N := none) #[true, true, true, true, true, true, true, true, true, true, true, true, true, true] rfl rfl (one_of HT_.out (by kernel_rfl)) (by decide) (fun K hK => ?_)
 refine skip_ (w1 := ?_) (by rfl) rfl ?_ ?_
 rotate_left
 ·go_simp
  rfl
 clear hsc_0 hsf_0 hsc_1 hsf_1 hsc_2 hsf_2
 have n_HB := Aside0.mk (show Below w.heap.size w (((w9.setCell ⟨w.heap.size, 0, none⟩ (.int .i64 (n : Int))).setCell ⟨w.heap.size, 1, none⟩ (.int .i64 x.ra)).setCell ⟨w.heap.size, 2, none⟩ (.int .i64 (wrap64 (x.by_ - x.se)))) from below_set (below_set (below_set (HB.out) HWW.out) HWW.out) HWW.out)
 have n_HK := Aside0.mk (blk_put (cs' := #[.int .i64 (n : Int), .int .i64 x.ra, .int .i64 (wrap64 (x.by_ - x.se))]) (blk_put (cs' := #[.int .i64 (n : Int), .int .i64 x.ra, .int .i64 0]) (blk_put (cs' := #[.int .i64 (n : Int), .int .i64 0, .int .i64 0]) (HK.out) 0 (.int .i64 (n : Int)) rfl) 1 (.int .i64 x.ra) rfl) 2 (.int .i64 (wrap64 (x.by_ - x.se))) rfl)
 clear HK HB
 have HK := n_HK
 have HB := n_HB
 clear n_HK n_HB
 generalize (((w9.setCell ⟨w.heap.size, 0, none⟩ (.int .i64 (n : Int))).setCell ⟨w.heap.size, 1, none⟩ (.int .i64 x.ra)).setCell ⟨w.heap.size, 2, none⟩ (.int .i64 (wrap64 (x.by_ - x.se)))) = w10 at HK HB ⊢
 refine hK.out _ _ ?_
 clear hK K
 refine done_ (done_of HT_.out (by kernel_rfl)) ?_
 clear hHeld HT_ HW_
 try go_wp2
 have hk_ := HK.out
 refine bodyPost_ret (results_cell_row rfl _ _ w.heap.size 35 #[.int .i64 (n : Int), .int .i64 x.ra, .int .i64 (wrap64 (x.by_ - x.se))] (0, 0) _ rfl hk_ Try.underlying35 rfl (by kernel_rfl)) rfl ?_
 exact ⟨by rw [HN.out], HS.out.below HB.out, below_step HB0.out HB.out, (KeepR.refl w).below HB.out⟩
theorem flywheelref26_Probe_Open.calls (g : Nat) (s0_0 : PrS) (r1 r2 r3 : Int) (r4 : PrS) (w0 w : World) (hI : IsS45 w0 w g s0_0) (hB : Below w0.heap.size w0 w) (h : flywheelref26_Probe_Open.f s0_0 = some (r1, r2, r3, r4)) :
  Calls Try.prog 13 #[.pointer (some ⟨g, 0, none⟩)] w fun e w' => e = .returned (.agg #[.int .i64 r1, .int .i64 r2, .int .i64 r3]) ∧ IsS45 w0 w' g r4 ∧ Below w0.heap.size w0 w' ∧ KeepR w w' := by
 unfold flywheelref26_Probe_Open.f at h
 by_cases hl : s0_0.l.length < 1000000
 rotate_left
 ·rw [if_neg hl] at h; cases h
 rw [if_pos hl] at h
 cases hq : s0_0.l.getLast? with
 | none =>
  rw [hq] at h
  simp only [Option.some.injEq, Prod.mk.injEq] at h
  obtain ⟨rfl, rfl, rfl, rfl⟩ := h
  exact flywheelref26_Probe_Open.shut g s0_0 w0 w hI hB hl (by unfold prOpen; rw [hq])
 | some c =>
  rw [hq] at h
  simp only at h
  by_cases hc : c.se < c.by_
  ·rw [if_pos hc] at h
   simp only [Option.some.injEq, Prod.mk.injEq] at h
   obtain ⟨rfl, rfl, rfl, rfl⟩ := h
   exact flywheelref26_Probe_Open.open g s0_0 c w0 w hI hB hl hq hc
  ·rw [if_neg hc] at h
   simp only [Option.some.injEq, Prod.mk.injEq] at h
   obtain ⟨rfl, rfl, rfl, rfl⟩ := h
   exact flywheelref26_Probe_Open.shut g s0_0 w0 w hI hB hl (by unfold prOpen; rw [hq]; exact decide_eq_false hc)
def probe_Probe_Best.f (s0_0 : PbS) : Option (Int × PbS) := some (s0_0.b, s0_0)
set_option maxHeartbeats 16000000 in
set_option maxRecDepth 100000 in
theorem probe_Probe_Best.calls (g : Nat) (s0_0 : PbS)  (r1 : Int) (r2 : PbS) (w0 w : World) (hI : IsS42 w0 w g s0_0) (hB : Below w0.heap.size w0 w) (h : probe_Probe_Best.f s0_0  = some (r1, r2)) :
  Calls Try.prog 14 #[.pointer (some ⟨g, 0, none⟩)] w fun e w' => e = .returned (.int .i64 r1) ∧ IsS42 w0 w' g r2 ∧ Below w0.heap.size w0 w' ∧ KeepT w w' := by
 have hpn23_eql : ∀ (a_ : Addr) (W_ : World), (Go.binOp .eql 23 (.pointer (some a_)) (.pointer none)).run Try.prog W_ = .ok (.bool false) W_ := fun _ _ => by kernel_rfl
 have hpn47_eql : ∀ (a_ : Addr) (W_ : World), (Go.binOp .eql 47 (.pointer (some a_)) (.pointer none)).run Try.prog W_ = .ok (.bool false) W_ := fun _ _ => by kernel_rfl
 simp only [probe_Probe_Best.f] at h
 simp only [Option.some.injEq, Prod.mk.injEq] at h
 obtain ⟨rfl, rfl⟩ := h
 have HS := Aside0.mk hI
 obtain ⟨m, L, h0, hL⟩ := hI
 have HB := Aside0.mk hB
 clear hB
 have hg_0 : w.cell? ⟨g, 0, none⟩ = some (.map (some m)) := (blk_cell h0.blk 0).trans rfl
 have hg_1 : w.cell? ⟨g, 1, none⟩ = some (.int .i64 s0_0.n) := (blk_cell h0.blk 1).trans rfl
 have hg_2 : w.cell? ⟨g, 2, none⟩ = some (.int .i64 s0_0.o) := (blk_cell h0.blk 2).trans rfl
 have hg_3 : w.cell? ⟨g, 3, none⟩ = some (.int .i64 s0_0.b) := (blk_cell h0.blk 3).trans rfl
 have hfg_0 := blk_frozen h0.blk 0
 have hfg_1 := blk_frozen h0.blk 1
 have hfg_2 := blk_frozen h0.blk 2
 have hfg_3 := blk_frozen h0.blk 3
 clear h0 hL
 go_enter Try.func14, Try.ntmps14
 go_wp2
 go_ret
 exact ⟨rfl, by repeat (first | exact HS.out | apply IsS42.alloc | apply IsS42.drewN | apply IsS42.drew), by repeat (first | exact HB.out | apply below_alloc | apply pw_below_drewN | apply below_drew1), by repeat (first | exact KeepT.refl _ | refine KeepT.below ?_ (below_drew (Below.refl _ _)) | refine KeepT.below ?_ (pw_below_drewN (Below.refl _ _) _))⟩
end Go.Proofs.Ytdddpmmpfemibaa.P
end

section
namespace Go.Proofs.Ytdddpmmpfemibaa.P
open Go.RowKit Go.Proofs.YtdddpmmpfemibaaW.PrintWords Go.Proofs.YtdddpmmpfemibaaW.PrintLast Go.Proofs.YtdddpmmpfemibaaW.PrintMore
attribute [local go_sem] max2_int min2_int max_two min_two max_three min_three max_four min_four   -- for this text's walks alone
set_option linter.unusedVariables false
set_option linter.unusedSimpArgs false
def flywheelref26_Probe_Best.f (s0_0 : PrS) : Option (Int × PrS) := some (s0_0.b, s0_0)
set_option maxHeartbeats 16000000 in
set_option maxRecDepth 100000 in
theorem flywheelref26_Probe_Best.calls (g : Nat) (s0_0 : PrS) (r1 : Int) (r2 : PrS) (w0 w : World) (hI : IsS45 w0 w g s0_0) (hB : Below w0.heap.size w0 w) (h : flywheelref26_Probe_Best.f s0_0 = some (r1, r2)) :
  Calls Try.prog 15 #[.pointer (some ⟨g, 0, none⟩)] w fun e w' => e = .returned (.int .i64 r1) ∧ IsS45 w0 w' g r2 ∧ Below w0.heap.size w0 w' ∧ KeepR w w' := by
 simp only [flywheelref26_Probe_Best.f, Option.some.injEq, Prod.mk.injEq] at h
 obtain ⟨rfl, rfl⟩ := h
 have HS := Aside0.mk hI
 obtain ⟨A, n, c, vs, h1, h2, h3, h4⟩ := hI
 clear h2 h3 h4
 have HB := Aside0.mk hB
 clear hB
 have hg_0 : w.cell? ⟨g, 0, none⟩ = some (.slice A n c) := (blk_cell h1 0).trans rfl
 have hg_1 : w.cell? ⟨g, 1, none⟩ = some (.int .i64 s0_0.b) := (blk_cell h1 1).trans rfl
 clear h1
 go_enter Try.func15, Try.ntmps15
 go_wp2
 go_ret
 exact ⟨rfl, by repeat (first | exact HS.out | apply IsS45.alloc | apply IsS45.drewN | apply IsS45.drew), by repeat (first | exact HB.out | apply below_alloc | apply pw_below_drewN | apply below_drew1), by repeat (first | exact KeepR.refl _ | refine KeepR.below ?_ (below_drew (Below.refl _ _)) | refine KeepR.below ?_ (pw_below_drewN (Below.refl _ _) _))⟩
def flywheellaw26_wakes.f  : Option (Bool) := (probe_New.f).bind fun t142 => ((probe_Probe_Start.f t142 8000000).bind fun bt144 => (if bt144.1 = 1 then ((probe_Probe_Open.f bt144.2).bind fun bt146 => (if bt146.1 = 1 then (if bt146.2.1 = 8000000 then (if bt146.2.2.1 = 15000 then ((probe_Probe_Sent.f bt146.2.2.2 1 1500 0).bind fun bt150 => (if bt150.1 = true then ((probe_Probe_Start.f bt150.2 1).bind fun bt152 => (some (bt152.1 == 0))) else (some false))) else (some false)) else (some false)) else (some false))) else (some false)))
set_option maxHeartbeats 8000000 in
set_option maxRecDepth 100000 in
theorem flywheellaw26_wakes.calls  (r : Bool) (w : World) (h : flywheellaw26_wakes.f  = some r) :
  Calls Try.prog 16 #[] w fun e w' => e = .returned (.bool r) ∧ Below w.heap.size w w' := by
 have hpn23_eql : ∀ (a_ : Addr) (W_ : World), (Go.binOp .eql 23 (.pointer (some a_)) (.pointer none)).run Try.prog W_ = .ok (.bool false) W_ := fun _ _ => by kernel_rfl
 have hnn23_eql : ∀ (W_ : World), (Go.binOp .eql 23 (.pointer none) (.pointer none)).run Try.prog W_ = .ok (.bool true) W_ := fun _ => by kernel_rfl
 have HB := Aside0.mk (Below.refl w.heap.size w)
 have H : ((probe_New.f).bind fun t142 => ((probe_Probe_Start.f t142 8000000).bind fun bt144 => (if bt144.1 = 1 then ((probe_Probe_Open.f bt144.2).bind fun bt146 => (if bt146.1 = 1 then (if bt146.2.1 = 8000000 then (if bt146.2.2.1 = 15000 then ((probe_Probe_Sent.f bt146.2.2.2 1 1500 0).bind fun bt150 => (if bt150.1 = true then ((probe_Probe_Start.f bt150.2 1).bind fun bt152 => (some (bt152.1 == 0))) else (some false))) else (some false)) else (some false)) else (some false))) else (some false)))) = some r := h
 clear h
 replace H := Option.bind_eq_some_iff.mp H
 obtain ⟨t142, A10, H⟩ := H
 replace H : ((probe_Probe_Start.f t142 8000000).bind fun bt144 => (if bt144.1 = 1 then ((probe_Probe_Open.f bt144.2).bind fun bt146 => (if bt146.1 = 1 then (if bt146.2.1 = 8000000 then (if bt146.2.2.1 = 15000 then ((probe_Probe_Sent.f bt146.2.2.2 1 1500 0).bind fun bt150 => (if bt150.1 = true then ((probe_Probe_Start.f bt150.2 1).bind fun bt152 => (some (bt152.1 == 0))) else (some false))) else (some false)) else (some false)) else (some false))) else (some false))) = some r := H
 have A1 := Aside0.mk A10
 clear A10
 replace H := Option.bind_eq_some_iff.mp H
 obtain ⟨⟨t144, t145⟩, A20, H⟩ := H
 replace H : (if t144 = 1 then ((probe_Probe_Open.f t145).bind fun bt146 => (if bt146.1 = 1 then (if bt146.2.1 = 8000000 then (if bt146.2.2.1 = 15000 then ((probe_Probe_Sent.f bt146.2.2.2 1 1500 0).bind fun bt150 => (if bt150.1 = true then ((probe_Probe_Start.f bt150.2 1).bind fun bt152 => (some (bt152.1 == 0))) else (some false))) else (some false)) else (some false)) else (some false))) else (some false)) = some r := H
 have A2 := Aside0.mk A20
 clear A20
 by_cases c3 : t144 = 1
 ·rw [if_pos c3] at H
  have c3b0 : (t144 == 1) = true := beq_iff_eq.mpr c3
  have c3b1 : (t144 != 1) = false := bne_eq_false_iff_eq.mpr c3
  clear c3
  replace H := Option.bind_eq_some_iff.mp H
  obtain ⟨⟨t146, t147, t148, t149⟩, A40, H⟩ := H
  replace H : (if t146 = 1 then (if t147 = 8000000 then (if t148 = 15000 then ((probe_Probe_Sent.f t149 1 1500 0).bind fun bt150 => (if bt150.1 = true then ((probe_Probe_Start.f bt150.2 1).bind fun bt152 => (some (bt152.1 == 0))) else (some false))) else (some false)) else (some false)) else (some false)) = some r := H
  have A4 := Aside0.mk A40
  clear A40
  by_cases c5 : t146 = 1
  ·rw [if_pos c5] at H
   have c5b0 : (t146 == 1) = true := beq_iff_eq.mpr c5
   have c5b1 : (t146 != 1) = false := bne_eq_false_iff_eq.mpr c5
   clear c5
   by_cases c6 : t147 = 8000000
   ·rw [if_pos c6] at H
    have c6b0 : (t147 == 8000000) = true := beq_iff_eq.mpr c6
    have c6b1 : (t147 != 8000000) = false := bne_eq_false_iff_eq.mpr c6
    clear c6
    by_cases c7 : t148 = 15000
    ·rw [if_pos c7] at H
     have c7b0 : (t148 == 15000) = true := beq_iff_eq.mpr c7
     have c7b1 : (t148 != 15000) = false := bne_eq_false_iff_eq.mpr c7
     clear c7
     replace H := Option.bind_eq_some_iff.mp H
     obtain ⟨⟨t150, t151⟩, A80, H⟩ := H
     replace H : (if t150 = true then ((probe_Probe_Start.f t151 1).bind fun bt152 => (some (bt152.1 == 0))) else (some false)) = some r := H
     have A8 := Aside0.mk A80
     clear A80
     by_cases c9 : t150 = true
     ·subst c9
      have H1 : ((probe_Probe_Start.f t151 1).bind fun bt152 => (some (bt152.1 == 0))) = some r := by rw [if_pos rfl] at H; exact H
      clear H
      have H := H1
      clear H1
      replace H := Option.bind_eq_some_iff.mp H
      obtain ⟨⟨t152, t153⟩, A100, H⟩ := H
      replace H : (some (t152 == 0)) = some r := H
      have A10 := Aside0.mk A100
      clear A100
      obtain rfl := Option.some.inj H
      go_enter Try.func16, Try.ntmps16
      go_wp2_with (first | ((with_reducible refine gate_callee (f := 4) rfl ?_); refine goesL_ (some 5) rfl rfl Try.func4 (by kernel_rfl) rfl #[] rfl (by (try simp only [List.map_toArray, List.map_cons, List.map_nil]); first | done | rfl | (simp only [List.length_drop, List.length_take]; rfl)) ?_; (with_reducible refine (probe_New.calls  t142 _ _ (Below.refl _ _) A1.out).mono ?_); rintro e w11 ⟨g143, rfl, hi, hb, hb2⟩; refine ⟨_, rfl, ?_⟩; have n0_ := Aside0.mk (below_step (by repeat (first | (with_reducible first | exact HB.out | apply below_alloc | apply pw_below_drewN | apply below_drew1) | exact HB.out)) hb2); have n1_ := Aside0.mk ((IsS42.rebase hi (below_size (by repeat (first | (with_reducible first | exact HB.out | apply below_alloc | apply pw_below_drewN | apply below_drew1) | exact HB.out))))); clear HB; have HB := n0_; have HI143 := n1_; clear n0_ n1_; (try clear hb); (try clear hb2); (try clear hk); (try clear hi)) | (go_at_call 6; (with_reducible refine (probe_Probe_Start.calls g143 t142 8000000 t144 t145 w _ ?side1 ?side2 A2.out).mono ?_); (case side1 => repeat (first | (with_reducible first | exact HI143.out | apply IsS42.alloc | apply IsS42.drewN | apply IsS42.drew | apply IsS42.set_0) | exact HI143.out)); (case side2 => repeat (first | (with_reducible first | exact HB.out | apply below_alloc | apply pw_below_drewN | apply below_drew1 | refine below_set ?_ (IsS42.ge HI143.out)) | exact HB.out)); rintro e w12 ⟨rfl, hi, hb, hk⟩; have n0_ := Aside0.mk (hb); have n1_ := Aside0.mk (hi); clear HB; clear HI143; have HB := n0_; have HI143 := n1_; clear n0_ n1_; (try clear hb); (try clear hb2); (try clear hk); (try clear hi)) | ((with_reducible refine gate_callee (f := 12) rfl ?_); refine goesL_ (some 15) rfl rfl Try.func12 (by kernel_rfl) rfl #[.pointer (some ⟨g143, 0, none⟩)] rfl (by (try simp only [List.map_toArray, List.map_cons, List.map_nil]); first | done | rfl | (simp only [List.length_drop, List.length_take]; rfl)) ?_; (with_reducible refine (probe_Probe_Open.calls g143 t145 t146 t147 t148 t149 w _ ?side1 ?side2 A4.out).mono ?_); (case side1 => repeat (first | (with_reducible first | exact HI143.out | apply IsS42.alloc | apply IsS42.drewN | apply IsS42.drew | apply IsS42.set_0) | exact HI143.out)); (case side2 => repeat (first | (with_reducible first | exact HB.out | apply below_alloc | apply pw_below_drewN | apply below_drew1 | refine below_set ?_ (IsS42.ge HI143.out)) | exact HB.out)); rintro e w13 ⟨rfl, hi, hb, hk⟩; refine ⟨_, rfl, ?_⟩; have n0_ := Aside0.mk (hb); have n1_ := Aside0.mk (hi); clear HB; clear HI143; have HB := n0_; have HI143 := n1_; clear n0_ n1_; (try clear hb); (try clear hb2); (try clear hk); (try clear hi)) | (go_at_call 8; (with_reducible refine (probe_Probe_Sent.calls g143 t149 1 1500 0 true t151 w _ ?side1 ?side2 A8.out).mono ?_); (case side1 => repeat (first | (with_reducible first | exact HI143.out | apply IsS42.alloc | apply IsS42.drewN | apply IsS42.drew | apply IsS42.set_0) | exact HI143.out)); (case side2 => repeat (first | (with_reducible first | exact HB.out | apply below_alloc | apply pw_below_drewN | apply below_drew1 | refine below_set ?_ (IsS42.ge HI143.out)) | exact HB.out)); rintro e w14 ⟨rfl, hi, hb, hk⟩; have n0_ := Aside0.mk (hb); have n1_ := Aside0.mk (hi); clear HB; clear HI143; have HB := n0_; have HI143 := n1_; clear n0_ n1_; (try clear hb); (try clear hb2); (try clear hk); (try clear hi)) | (go_at_call 6; (with_reducible refine (probe_Probe_Start.calls g143 t151 1 t152 t153 w _ ?side1 ?side2 A10.out).mono ?_); (case side1 => repeat (first | (with_reducible first | exact HI143.out | apply IsS42.alloc | apply IsS42.drewN | apply IsS42.drew | apply IsS42.set_0) | exact HI143.out)); (case side2 => repeat (first | (with_reducible first | exact HB.out | apply below_alloc | apply pw_below_drewN | apply below_drew1 | refine below_set ?_ (IsS42.ge HI143.out)) | exact HB.out)); rintro e w15 ⟨rfl, hi, hb, hk⟩; have n0_ := Aside0.mk (hb); have n1_ := Aside0.mk (hi); clear HB; clear HI143; have HB := n0_; have HI143 := n1_; clear n0_ n1_; (try clear hb); (try clear hb2); (try clear hk); (try clear hi)))
      go_ret
      exact ⟨by first | rfl | (simp [errW_none, errW_some] <;> rfl) | (simp [*, errW_none, errW_some] <;> rfl), by repeat (first | (with_reducible first | exact HB.out | apply below_alloc | apply pw_below_drewN | apply below_drew1 | refine below_set ?_ (IsS42.ge HI143.out)) | exact HB.out)⟩
     ·replace c9 := Bool.eq_false_iff.mpr c9
      subst c9
      have H1 : (some false) = some r := by rw [if_neg (show ¬ (false = true) by decide)] at H; exact H
      clear H
      have H := H1
      clear H1
      obtain rfl := Option.some.inj H
      go_enter Try.func16, Try.ntmps16
      go_wp2_with (first | ((with_reducible refine gate_callee (f := 4) rfl ?_); refine goesL_ (some 5) rfl rfl Try.func4 (by kernel_rfl) rfl #[] rfl (by (try simp only [List.map_toArray, List.map_cons, List.map_nil]); first | done | rfl | (simp only [List.length_drop, List.length_take]; rfl)) ?_; (with_reducible refine (probe_New.calls  t142 _ _ (Below.refl _ _) A1.out).mono ?_); rintro e w16 ⟨g143, rfl, hi, hb, hb2⟩; refine ⟨_, rfl, ?_⟩; have n0_ := Aside0.mk (below_step (by repeat (first | (with_reducible first | exact HB.out | apply below_alloc | apply pw_below_drewN | apply below_drew1) | exact HB.out)) hb2); have n1_ := Aside0.mk ((IsS42.rebase hi (below_size (by repeat (first | (with_reducible first | exact HB.out | apply below_alloc | apply pw_below_drewN | apply below_drew1) | exact HB.out))))); clear HB; have HB := n0_; have HI143 := n1_; clear n0_ n1_; (try clear hb); (try clear hb2); (try clear hk); (try clear hi)) | (go_at_call 6; (with_reducible refine (probe_Probe_Start.calls g143 t142 8000000 t144 t145 w _ ?side1 ?side2 A2.out).mono ?_); (case side1 => repeat (first | (with_reducible first | exact HI143.out | apply IsS42.alloc | apply IsS42.drewN | apply IsS42.drew | apply IsS42.set_0) | exact HI143.out)); (case side2 => repeat (first | (with_reducible first | exact HB.out | apply below_alloc | apply pw_below_drewN | apply below_drew1 | refine below_set ?_ (IsS42.ge HI143.out)) | exact HB.out)); rintro e w17 ⟨rfl, hi, hb, hk⟩; have n0_ := Aside0.mk (hb); have n1_ := Aside0.mk (hi); clear HB; clear HI143; have HB := n0_; have HI143 := n1_; clear n0_ n1_; (try clear hb); (try clear hb2); (try clear hk); (try clear hi)) | ((with_reducible refine gate_callee (f := 12) rfl ?_); refine goesL_ (some 15) rfl rfl Try.func12 (by kernel_rfl) rfl #[.pointer (some ⟨g143, 0, none⟩)] rfl (by (try simp only [List.map_toArray, List.map_cons, List.map_nil]); first | done | rfl | (simp only [List.length_drop, List.length_take]; rfl)) ?_; (with_reducible refine (probe_Probe_Open.calls g143 t145 t146 t147 t148 t149 w _ ?side1 ?side2 A4.out).mono ?_); (case side1 => repeat (first | (with_reducible first | exact HI143.out | apply IsS42.alloc | apply IsS42.drewN | apply IsS42.drew | apply IsS42.set_0) | exact HI143.out)); (case side2 => repeat (first | (with_reducible first | exact HB.out | apply below_alloc | apply pw_below_drewN | apply below_drew1 | refine below_set ?_ (IsS42.ge HI143.out)) | exact HB.out)); rintro e w18 ⟨rfl, hi, hb, hk⟩; refine ⟨_, rfl, ?_⟩; have n0_ := Aside0.mk (hb); have n1_ := Aside0.mk (hi); clear HB; clear HI143; have HB := n0_; have HI143 := n1_; clear n0_ n1_; (try clear hb); (try clear hb2); (try clear hk); (try clear hi)) | (go_at_call 8; (with_reducible refine (probe_Probe_Sent.calls g143 t149 1 1500 0 false t151 w _ ?side1 ?side2 A8.out).mono ?_); (case side1 => repeat (first | (with_reducible first | exact HI143.out | apply IsS42.alloc | apply IsS42.drewN | apply IsS42.drew | apply IsS42.set_0) | exact HI143.out)); (case side2 => repeat (first | (with_reducible first | exact HB.out | apply below_alloc | apply pw_below_drewN | apply below_drew1 | refine below_set ?_ (IsS42.ge HI143.out)) | exact HB.out)); rintro e w19 ⟨rfl, hi, hb, hk⟩; have n0_ := Aside0.mk (hb); have n1_ := Aside0.mk (hi); clear HB; clear HI143; have HB := n0_; have HI143 := n1_; clear n0_ n1_; (try clear hb); (try clear hb2); (try clear hk); (try clear hi)))
      go_ret
      exact ⟨by first | rfl | (simp [errW_none, errW_some] <;> rfl) | (simp [*, errW_none, errW_some] <;> rfl), by repeat (first | (with_reducible first | exact HB.out | apply below_alloc | apply pw_below_drewN | apply below_drew1 | refine below_set ?_ (IsS42.ge HI143.out)) | exact HB.out)⟩
    ·rw [if_neg c7] at H
     have c7b0 : (t148 == 15000) = false := beq_eq_false_iff_ne.mpr c7
     have c7b1 : (t148 != 15000) = true := bne_iff_ne.mpr c7
     obtain rfl := Option.some.inj H
     go_enter Try.func16, Try.ntmps16
     go_wp2_with (first | ((with_reducible refine gate_callee (f := 4) rfl ?_); refine goesL_ (some 5) rfl rfl Try.func4 (by kernel_rfl) rfl #[] rfl (by (try simp only [List.map_toArray, List.map_cons, List.map_nil]); first | done | rfl | (simp only [List.length_drop, List.length_take]; rfl)) ?_; (with_reducible refine (probe_New.calls  t142 _ _ (Below.refl _ _) A1.out).mono ?_); rintro e w20 ⟨g143, rfl, hi, hb, hb2⟩; refine ⟨_, rfl, ?_⟩; have n0_ := Aside0.mk (below_step (by repeat (first | (with_reducible first | exact HB.out | apply below_alloc | apply pw_below_drewN | apply below_drew1) | exact HB.out)) hb2); have n1_ := Aside0.mk ((IsS42.rebase hi (below_size (by repeat (first | (with_reducible first | exact HB.out | apply below_alloc | apply pw_below_drewN | apply below_drew1) | exact HB.out))))); clear HB; have HB := n0_; have HI143 := n1_; clear n0_ n1_; (try clear hb); (try clear hb2); (try clear hk); (try clear hi)) | (go_at_call 6; (with_reducible refine (probe_Probe_Start.calls g143 t142 8000000 t144 t145 w _ ?side1 ?side2 A2.out).mono ?_); (case side1 => repeat (first | (with_reducible first | exact HI143.out | apply IsS42.alloc | apply IsS42.drewN | apply IsS42.drew | apply IsS42.set_0) | exact HI143.out)); (case side2 => repeat (first | (with_reducible first | exact HB.out | apply below_alloc | apply pw_below_drewN | apply below_drew1 | refine below_set ?_ (IsS42.ge HI143.out)) | exact HB.out)); rintro e w21 ⟨rfl, hi, hb, hk⟩; have n0_ := Aside0.mk (hb); have n1_ := Aside0.mk (hi); clear HB; clear HI143; have HB := n0_; have HI143 := n1_; clear n0_ n1_; (try clear hb); (try clear hb2); (try clear hk); (try clear hi)) | ((with_reducible refine gate_callee (f := 12) rfl ?_); refine goesL_ (some 15) rfl rfl Try.func12 (by kernel_rfl) rfl #[.pointer (some ⟨g143, 0, none⟩)] rfl (by (try simp only [List.map_toArray, List.map_cons, List.map_nil]); first | done | rfl | (simp only [List.length_drop, List.length_take]; rfl)) ?_; (with_reducible refine (probe_Probe_Open.calls g143 t145 t146 t147 t148 t149 w _ ?side1 ?side2 A4.out).mono ?_); (case side1 => repeat (first | (with_reducible first | exact HI143.out | apply IsS42.alloc | apply IsS42.drewN | apply IsS42.drew | apply IsS42.set_0) | exact HI143.out)); (case side2 => repeat (first | (with_reducible first | exact HB.out | apply below_alloc | apply pw_below_drewN | apply below_drew1 | refine below_set ?_ (IsS42.ge HI143.out)) | exact HB.out)); rintro e w22 ⟨rfl, hi, hb, hk⟩; refine ⟨_, rfl, ?_⟩; have n0_ := Aside0.mk (hb); have n1_ := Aside0.mk (hi); clear HB; clear HI143; have HB := n0_; have HI143 := n1_; clear n0_ n1_; (try clear hb); (try clear hb2); (try clear hk); (try clear hi)))
     go_ret
     exact ⟨by first | rfl | (simp [errW_none, errW_some] <;> rfl) | (simp [*, errW_none, errW_some] <;> rfl), by repeat (first | (with_reducible first | exact HB.out | apply below_alloc | apply pw_below_drewN | apply below_drew1 | refine below_set ?_ (IsS42.ge HI143.out)) | exact HB.out)⟩
   ·rw [if_neg c6] at H
    have c6b0 : (t147 == 8000000) = false := beq_eq_false_iff_ne.mpr c6
    have c6b1 : (t147 != 8000000) = true := bne_iff_ne.mpr c6
    obtain rfl := Option.some.inj H
    go_enter Try.func16, Try.ntmps16
    go_wp2_with (first | ((with_reducible refine gate_callee (f := 4) rfl ?_); refine goesL_ (some 5) rfl rfl Try.func4 (by kernel_rfl) rfl #[] rfl (by (try simp only [List.map_toArray, List.map_cons, List.map_nil]); first | done | rfl | (simp only [List.length_drop, List.length_take]; rfl)) ?_; (with_reducible refine (probe_New.calls  t142 _ _ (Below.refl _ _) A1.out).mono ?_); rintro e w23 ⟨g143, rfl, hi, hb, hb2⟩; refine ⟨_, rfl, ?_⟩; have n0_ := Aside0.mk (below_step (by repeat (first | (with_reducible first | exact HB.out | apply below_alloc | apply pw_below_drewN | apply below_drew1) | exact HB.out)) hb2); have n1_ := Aside0.mk ((IsS42.rebase hi (below_size (by repeat (first | (with_reducible first | exact HB.out | apply below_alloc | apply pw_below_drewN | apply below_drew1) | exact HB.out))))); clear HB; have HB := n0_; have HI143 := n1_; clear n0_ n1_; (try clear hb); (try clear hb2); (try clear hk); (try clear hi)) | (go_at_call 6; (with_reducible refine (probe_Probe_Start.calls g143 t142 8000000 t144 t145 w _ ?side1 ?side2 A2.out).mono ?_); (case side1 => repeat (first | (with_reducible first | exact HI143.out | apply IsS42.alloc | apply IsS42.drewN | apply IsS42.drew | apply IsS42.set_0) | exact HI143.out)); (case side2 => repeat (first | (with_reducible first | exact HB.out | apply below_alloc | apply pw_below_drewN | apply below_drew1 | refine below_set ?_ (IsS42.ge HI143.out)) | exact HB.out)); rintro e w24 ⟨rfl, hi, hb, hk⟩; have n0_ := Aside0.mk (hb); have n1_ := Aside0.mk (hi); clear HB; clear HI143; have HB := n0_; have HI143 := n1_; clear n0_ n1_; (try clear hb); (try clear hb2); (try clear hk); (try clear hi)) | ((with_reducible refine gate_callee (f := 12) rfl ?_); refine goesL_ (some 15) rfl rfl Try.func12 (by kernel_rfl) rfl #[.pointer (some ⟨g143, 0, none⟩)] rfl (by (try simp only [List.map_toArray, List.map_cons, List.map_nil]); first | done | rfl | (simp only [List.length_drop, List.length_take]; rfl)) ?_; (with_reducible refine (probe_Probe_Open.calls g143 t145 t146 t147 t148 t149 w _ ?side1 ?side2 A4.out).mono ?_); (case side1 => repeat (first | (with_reducible first | exact HI143.out | apply IsS42.alloc | apply IsS42.drewN | apply IsS42.drew | apply IsS42.set_0) | exact HI143.out)); (case side2 => repeat (first | (with_reducible first | exact HB.out | apply below_alloc | apply pw_below_drewN | apply below_drew1 | refine below_set ?_ (IsS42.ge HI143.out)) | exact HB.out)); rintro e w25 ⟨rfl, hi, hb, hk⟩; refine ⟨_, rfl, ?_⟩; have n0_ := Aside0.mk (hb); have n1_ := Aside0.mk (hi); clear HB; clear HI143; have HB := n0_; have HI143 := n1_; clear n0_ n1_; (try clear hb); (try clear hb2); (try clear hk); (try clear hi)))
    go_ret
    exact ⟨by first | rfl | (simp [errW_none, errW_some] <;> rfl) | (simp [*, errW_none, errW_some] <;> rfl), by repeat (first | (with_reducible first | exact HB.out | apply below_alloc | apply pw_below_drewN | apply below_drew1 | refine below_set ?_ (IsS42.ge HI143.out)) | exact HB.out)⟩
  ·rw [if_neg c5] at H
   have c5b0 : (t146 == 1) = false := beq_eq_false_iff_ne.mpr c5
   have c5b1 : (t146 != 1) = true := bne_iff_ne.mpr c5
   obtain rfl := Option.some.inj H
   go_enter Try.func16, Try.ntmps16
   go_wp2_with (first | ((with_reducible refine gate_callee (f := 4) rfl ?_); refine goesL_ (some 5) rfl rfl Try.func4 (by kernel_rfl) rfl #[] rfl (by (try simp only [List.map_toArray, List.map_cons, List.map_nil]); first | done | rfl | (simp only [List.length_drop, List.length_take]; rfl)) ?_; (with_reducible refine (probe_New.calls  t142 _ _ (Below.refl _ _) A1.out).mono ?_); rintro e w26 ⟨g143, rfl, hi, hb, hb2⟩; refine ⟨_, rfl, ?_⟩; have n0_ := Aside0.mk (below_step (by repeat (first | (with_reducible first | exact HB.out | apply below_alloc | apply pw_below_drewN | apply below_drew1) | exact HB.out)) hb2); have n1_ := Aside0.mk ((IsS42.rebase hi (below_size (by repeat (first | (with_reducible first | exact HB.out | apply below_alloc | apply pw_below_drewN | apply below_drew1) | exact HB.out))))); clear HB; have HB := n0_; have HI143 := n1_; clear n0_ n1_; (try clear hb); (try clear hb2); (try clear hk); (try clear hi)) | (go_at_call 6; (with_reducible refine (probe_Probe_Start.calls g143 t142 8000000 t144 t145 w _ ?side1 ?side2 A2.out).mono ?_); (case side1 => repeat (first | (with_reducible first | exact HI143.out | apply IsS42.alloc | apply IsS42.drewN | apply IsS42.drew | apply IsS42.set_0) | exact HI143.out)); (case side2 => repeat (first | (with_reducible first | exact HB.out | apply below_alloc | apply pw_below_drewN | apply below_drew1 | refine below_set ?_ (IsS42.ge HI143.out)) | exact HB.out)); rintro e w27 ⟨rfl, hi, hb, hk⟩; have n0_ := Aside0.mk (hb); have n1_ := Aside0.mk (hi); clear HB; clear HI143; have HB := n0_; have HI143 := n1_; clear n0_ n1_; (try clear hb); (try clear hb2); (try clear hk); (try clear hi)) | ((with_reducible refine gate_callee (f := 12) rfl ?_); refine goesL_ (some 15) rfl rfl Try.func12 (by kernel_rfl) rfl #[.pointer (some ⟨g143, 0, none⟩)] rfl (by (try simp only [List.map_toArray, List.map_cons, List.map_nil]); first | done | rfl | (simp only [List.length_drop, List.length_take]; rfl)) ?_; (with_reducible refine (probe_Probe_Open.calls g143 t145 t146 t147 t148 t149 w _ ?side1 ?side2 A4.out).mono ?_); (case side1 => repeat (first | (with_reducible first | exact HI143.out | apply IsS42.alloc | apply IsS42.drewN | apply IsS42.drew | apply IsS42.set_0) | exact HI143.out)); (case side2 => repeat (first | (with_reducible first | exact HB.out | apply below_alloc | apply pw_below_drewN | apply below_drew1 | refine below_set ?_ (IsS42.ge HI143.out)) | exact HB.out)); rintro e w28 ⟨rfl, hi, hb, hk⟩; refine ⟨_, rfl, ?_⟩; have n0_ := Aside0.mk (hb); have n1_ := Aside0.mk (hi); clear HB; clear HI143; have HB := n0_; have HI143 := n1_; clear n0_ n1_; (try clear hb); (try clear hb2); (try clear hk); (try clear hi)))
   go_ret
   exact ⟨by first | rfl | (simp [errW_none, errW_some] <;> rfl) | (simp [*, errW_none, errW_some] <;> rfl), by repeat (first | (with_reducible first | exact HB.out | apply below_alloc | apply pw_below_drewN | apply below_drew1 | refine below_set ?_ (IsS42.ge HI143.out)) | exact HB.out)⟩
 ·rw [if_neg c3] at H
  have c3b0 : (t144 == 1) = false := beq_eq_false_iff_ne.mpr c3
  have c3b1 : (t144 != 1) = true := bne_iff_ne.mpr c3
  obtain rfl := Option.some.inj H
  go_enter Try.func16, Try.ntmps16
  go_wp2_with (first | ((with_reducible refine gate_callee (f := 4) rfl ?_); refine goesL_ (some 5) rfl rfl Try.func4 (by kernel_rfl) rfl #[] rfl (by (try simp only [List.map_toArray, List.map_cons, List.map_nil]); first | done | rfl | (simp only [List.length_drop, List.length_take]; rfl)) ?_; (with_reducible refine (probe_New.calls  t142 _ _ (Below.refl _ _) A1.out).mono ?_); rintro e w29 ⟨g143, rfl, hi, hb, hb2⟩; refine ⟨_, rfl, ?_⟩; have n0_ := Aside0.mk (below_step (by repeat (first | (with_reducible first | exact HB.out | apply below_alloc | apply pw_below_drewN | apply below_drew1) | exact HB.out)) hb2); have n1_ := Aside0.mk ((IsS42.rebase hi (below_size (by repeat (first | (with_reducible first | exact HB.out | apply below_alloc | apply pw_below_drewN | apply below_drew1) | exact HB.out))))); clear HB; have HB := n0_; have HI143 := n1_; clear n0_ n1_; (try clear hb); (try clear hb2); (try clear hk); (try clear hi)) | (go_at_call 6; (with_reducible refine (probe_Probe_Start.calls g143 t142 8000000 t144 t145 w _ ?side1 ?side2 A2.out).mono ?_); (case side1 => repeat (first | (with_reducible first | exact HI143.out | apply IsS42.alloc | apply IsS42.drewN | apply IsS42.drew | apply IsS42.set_0) | exact HI143.out)); (case side2 => repeat (first | (with_reducible first | exact HB.out | apply below_alloc | apply pw_below_drewN | apply below_drew1 | refine below_set ?_ (IsS42.ge HI143.out)) | exact HB.out)); rintro e w30 ⟨rfl, hi, hb, hk⟩; have n0_ := Aside0.mk (hb); have n1_ := Aside0.mk (hi); clear HB; clear HI143; have HB := n0_; have HI143 := n1_; clear n0_ n1_; (try clear hb); (try clear hb2); (try clear hk); (try clear hi)))
  go_ret
  exact ⟨by first | rfl | (simp [errW_none, errW_some] <;> rfl) | (simp [*, errW_none, errW_some] <;> rfl), by repeat (first | (with_reducible first | exact HB.out | apply below_alloc | apply pw_below_drewN | apply below_drew1 | refine below_set ?_ (IsS42.ge HI143.out)) | exact HB.out)⟩
end Go.Proofs.Ytdddpmmpfemibaa.P
end

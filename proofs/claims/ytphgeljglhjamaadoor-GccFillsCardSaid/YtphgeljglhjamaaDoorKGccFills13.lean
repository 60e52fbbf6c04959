-- PUT TOGETHER by a program of this session: of the claim's texts, what is used
import Derived.Test.YtphgeljglhjamaaDoorKGccFills6
import Derived.Test.YtphgeljglhjamaaDoorKGccFills8
import Derived.Test.YtphgeljglhjamaaDoorKGccFills9
import Derived.Test.YtphgeljglhjamaaDoorKGccFills11
import Derived.Test.YtphgeljglhjamaaDoorKGccFills12
section
namespace Go.Proofs.YtphgeljglhjamaaDoor.P
open Go.RowKit Go.Proofs.YtphgeljglhjamaaDoorW.PrintWords Go.Proofs.YtphgeljglhjamaaDoorW.PrintLast Go.Proofs.YtphgeljglhjamaaDoorW.PrintMore
attribute [local go_sem] max2_int min2_int max_two min_two max_three min_three max_four min_four
set_option linter.unusedVariables false
set_option linter.unusedSimpArgs false
def gcc_Gcc_Hear.step (k : Nat) (now : Int) (s : GccS) (x : S41) : Option GccS := (group_Grouper_Add.f k s.g x.f0.f1 x.f0.f2 x.f1 x.f2).bind fun q => if q.2.1 = true then ((trend_Trend_Add.f k s.t.w s.t.s s.t.m s.t.y s.t.x s.t.xs s.t.ys s.t.c q.1.1 q.1.2.1).bind fun t => (detect_Detector_Add.f k s.d0 s.d1 s.d2 s.d3 s.d4 s.d5 t.1 t.2.2.2.2.2.2.2.2 q.1.1 now).bind fun d => some { s with g := q.2.2, t := ⟨t.2.1, t.2.2.1, t.2.2.2.1, t.2.2.2.2.1, t.2.2.2.2.2.1, t.2.2.2.2.2.2.1, t.2.2.2.2.2.2.2.1, t.2.2.2.2.2.2.2.2⟩, d0 := d.2.1, d1 := d.2.2.1, d2 := d.2.2.2.1, d3 := d.2.2.2.2.1, d4 := d.2.2.2.2.2.1, d5 := d.2.2.2.2.2.2 }) else some { s with g := q.2.2 }
def gcc_Gcc_Hear.all (k : Nat) (now : Int) : GccS → List S41 → Option GccS
 | s, [] => some s
 | s, x :: r => (gcc_Gcc_Hear.step k now s x).bind fun s' => gcc_Gcc_Hear.all k now s' r
def gcc_Gcc_Hear.rated (k : Nat) (s : GccS) (l : List S41) (a3 a4 : Int) : Option GccS := if l.length = 0 then some s else ((sat_Sub.f k a4 (rd_T41 l (wrap64 ((l.length : Int) - 1))).f0.f2).bind fun t1 => (sat_Clamp.f t1 1000 1000000).bind fun t2 => (aimd_Aimd_Update.f k s.a0 s.a1 s.a2 s.a3 s.a4 s.a5 s.a6 s.a7 s.a8 s.d0 a3 t2 a4).bind fun u => some { s with rtt := t2, a0 := u.2.1, a1 := u.2.2.1, a2 := u.2.2.2.1, a3 := u.2.2.2.2.1, a4 := u.2.2.2.2.2.1, a5 := u.2.2.2.2.2.2.1, a6 := u.2.2.2.2.2.2.2.1, a7 := u.2.2.2.2.2.2.2.2.1, a8 := u.2.2.2.2.2.2.2.2.2 })
def gcc_Gcc_Hear.f (k : Nat) (s0_0 : GccS) (l1 : List S41) (a2 : Int) (a3 : Int) (a4 : Int) : Option (Int × GccS) := (gcc_Gcc_Hear.all k a4 s0_0 l1).bind fun s => (gcc_Gcc_Hear.rated k s l1 a3 a4).bind fun s => (lossy_Lossy_Update.f s.l0 s.l1 s.l2 s.l3 s.l4 a2 a4).bind fun v => some (mn s.a0 v.2.1, { s with l0 := v.2.1, l1 := v.2.2.1, l2 := v.2.2.2.1, l3 := v.2.2.2.2.1, l4 := v.2.2.2.2.2 })
theorem gcc_Gcc_Hear.step_mono (k : Nat) (now : Int) (s : GccS) (x : S41) : LeO (gcc_Gcc_Hear.step k now s x) (gcc_Gcc_Hear.step (k + 1) now s x) := by
 unfold gcc_Gcc_Hear.step
 exact LeO.bind (group_Grouper_Add.mono _ _ _ _ _ _) (fun _ => LeO.ite (LeO.bind (trend_Trend_Add.mono _ _ _ _ _ _ _ _ _ _ _) (fun _ => LeO.bind (detect_Detector_Add.mono _ _ _ _ _ _ _ _ _ _ _) (fun _ => LeO.refl _))) (LeO.refl _))
theorem gcc_Gcc_Hear.all_mono (k : Nat) (now : Int) : ∀ (l : List S41) (s : GccS), LeO (gcc_Gcc_Hear.all k now s l) (gcc_Gcc_Hear.all (k + 1) now s l)
 | [], _ => LeO.refl _
 | x :: r, s => LeO.bind (gcc_Gcc_Hear.step_mono k now s x) (fun s' => gcc_Gcc_Hear.all_mono k now r s')
theorem gcc_Gcc_Hear.mono : ∀ a0 a1 a2 a3 a4 k, LeO (gcc_Gcc_Hear.f k a0 a1 a2 a3 a4) (gcc_Gcc_Hear.f (k + 1) a0 a1 a2 a3 a4) := by
 intro a0 a1 a2 a3 a4 k
 unfold gcc_Gcc_Hear.f gcc_Gcc_Hear.rated
 exact LeO.bind (gcc_Gcc_Hear.all_mono _ _ _ _) (fun _ => LeO.bind (LeO.ite (LeO.refl _) (LeO.bind (sat_Sub.mono _ _ _) (fun _ => LeO.bind (LeO.refl _) (fun _ => LeO.bind (aimd_Aimd_Update.mono _ _ _ _ _ _ _ _ _ _ _ _ _ _) (fun _ => LeO.refl _))))) (fun _ => LeO.refl _))
set_option maxHeartbeats 16000000 in
set_option maxRecDepth 100000 in
theorem trend_Trend_Count.calls (g : Nat) (f0 f1 f2 f3 f4 : Int) (f5 f6 : List Int) (f7 : Int) (w0 w : World) (hI : IsS88 w0 w g f0 f1 f2 f3 f4 f5 f6 f7) :
  Calls Tryd.prog 22 #[.pointer (some ⟨g, 0, none⟩)] w fun e w' => e = .returned (.int .i64 f7) ∧ Below w.heap.size w w' := by
 have hpn57_eql : ∀ (a_ : Addr) (W_ : World), (Go.binOp .eql 57 (.pointer (some a_)) (.pointer none)).run Tryd.prog W_ = .ok (.bool false) W_ := fun _ _ => by kernel_rfl
 obtain ⟨A5, c5, A6, c6, h0, _⟩ := hI
 have hc7_ : w.cell? ⟨g, 7, none⟩ = some (.int .i64 f7) := (blk_cell h0 7).trans rfl
 have hf7_ := blk_frozen h0 7
 clear h0
 go_enter Tryd.func22, Tryd.ntmps22
 go_wp2
 go_ret
 exact ⟨o106, o94⟩
def gcc_Gcc_Hear.T6 : Bool × List (List Nat × List Nat) := (true, [([], []), ([0], [0]), ([1], [1]), ([2], [2]), ([3], [3]), ([], []), ([4, 5], [4, 5]), ([6], [6]), ([7], [7]), ([7], [7]), ([], []), ([10, 8, 6, 0, 1, 2, 3, 4, 5, 6, 7, 8, 10], [8, 10]), ([9, 11, 0, 1, 2, 3, 4, 5, 6, 7, 8, 9, 10, 11], [9])])
def gcc_Gcc_Hear.B6 : List Nat := [0, 1, 3, 7, 15, 0, 63, 127, 255, 255, 0, 1535, 4095]
theorem gcc_Gcc_Hear.tab6 : rtab .any (opsOf Tryd.f10 6) = gcc_Gcc_Hear.T6 := by kernel_rfl
theorem gcc_Gcc_Hear.bits6 : waitsOk gcc_Gcc_Hear.T6.2 gcc_Gcc_Hear.B6 = true := by kernel_rfl
def gcc_Gcc_Hear.T8 : Bool × List (List Nat × List Nat) := (true, [([], []), ([0], [0]), ([1], [1]), ([2], [2]), ([3], [3]), ([], []), ([5], [5]), ([], []), ([7], [7]), ([4, 6, 8], [4, 6, 8]), ([9, 9, 0, 1, 2, 3, 4, 5, 6, 7, 8, 9], [9])])
def gcc_Gcc_Hear.B8 : List Nat := [0, 1, 3, 7, 15, 0, 32, 0, 128, 511, 1023]
theorem gcc_Gcc_Hear.tab8 : rtab .any (opsOf Tryd.f10 8) = gcc_Gcc_Hear.T8 := by kernel_rfl
theorem gcc_Gcc_Hear.bits8 : waitsOk gcc_Gcc_Hear.T8.2 gcc_Gcc_Hear.B8 = true := by kernel_rfl
def gcc_Gcc_Hear.T9 : Bool × List (List Nat × List Nat) := (true, [([], []), ([0], [0]), ([1], [1]), ([2], [2]), ([3], [3]), ([], []), ([], []), ([6], [6]), ([7], [7]), ([8], [8]), ([9], [9]), ([10], [10]), ([], []), ([12], [12]), ([], []), ([4, 5, 11, 13, 14, 11], [4, 5, 11, 13, 14])])
def gcc_Gcc_Hear.B9 : List Nat := [0, 1, 3, 7, 15, 0, 0, 64, 192, 448, 960, 1984, 0, 4096, 0, 32767]
theorem gcc_Gcc_Hear.tab9 : rtab .any (opsOf Tryd.f10 9) = gcc_Gcc_Hear.T9 := by kernel_rfl
theorem gcc_Gcc_Hear.bits9 : waitsOk gcc_Gcc_Hear.T9.2 gcc_Gcc_Hear.B9 = true := by kernel_rfl
def gcc_Gcc_Hear.T14 : Bool × List (List Nat × List Nat) := (true, [([], []), ([0], [0]), ([1], [1]), ([2], [2]), ([], []), ([4], [4]), ([], []), ([], []), ([7], [7]), ([8], [8]), ([9], [9]), ([], []), ([3, 5, 6, 10, 11, 5], [3, 5, 6, 10, 11])])
def gcc_Gcc_Hear.B14 : List Nat := [0, 1, 3, 7, 0, 16, 0, 0, 128, 384, 896, 0, 4095]
theorem gcc_Gcc_Hear.tab14 : rtab .any (opsOf Tryd.f10 14) = gcc_Gcc_Hear.T14 := by kernel_rfl
theorem gcc_Gcc_Hear.bits14 : waitsOk gcc_Gcc_Hear.T14.2 gcc_Gcc_Hear.B14 = true := by kernel_rfl
theorem KS.after {w0 w W W1 : World} {g gr tr de ai lo : Nat} {s : GccS} (h : HZ w0 w W g gr tr de ai lo s) (hb : Below w0.heap.size w0 W1) (hk : KS w0 W W1) : KS w0 w W1 :=
 h.ks.step h.bel hb hk.1 (fun k cs t ho hc => (hk.2 k (.inr ⟨cs, t, hc, ho⟩)).trans hc)
set_option maxHeartbeats 16000000 in
set_option maxRecDepth 100000 in
theorem gcc_Gcc_Hear.calls (k : Nat) (g : Nat) (s0_0 : GccS) (A1 : Option Addr) (c1 : Nat) (l1 : List S41) (a2 : Int) (a3 : Int) (a4 : Int) (r1 : Int) (r2 : GccS) (w0 w : World) (hI : IsS65 w0 w g s0_0) (hB : Below w0.heap.size w0 w) (hr1 : R41 w0 w A1 l1) (hc1 : l1.length ≤ c1) (hG : GL w0) (h : gcc_Gcc_Hear.f k s0_0 l1 a2 a3 a4 = some (r1, r2)) :
  Calls Tryd.prog 10 #[.pointer (some ⟨g, 0, none⟩), .slice A1 l1.length c1, .int .i64 a2, .int .i64 a3, .int .i64 a4] w fun e w' => e = .returned (.int .i64 r1) ∧ IsS65 w0 w' g r2 ∧ Below w0.heap.size w0 w' ∧ KS w0 w w' := by
 have HTB := aW hG
 clear hG
 have hu65 := Tryd.underlying65
 have hu63 := Tryd.underlying63
 have hu41 := Tryd.underlying41
 have hu39 := Tryd.underlying39
 have hu67 := Tryd.underlying67
 have hpn25_eql : ∀ (a_ : Addr) (W_ : World), (Go.binOp .eql 25 (.pointer (some a_)) (.pointer none)).run Tryd.prog W_ = .ok (.bool false) W_ := fun _ _ => by kernel_rfl
 unfold gcc_Gcc_Hear.f at h
 obtain ⟨sN, A4_, h⟩ := Option.bind_eq_some_iff.mp h
 obtain ⟨sR, A5_, h⟩ := Option.bind_eq_some_iff.mp h
 obtain ⟨⟨v1, v2, v3, v4, v5, v6⟩, A6_, h⟩ := Option.bind_eq_some_iff.mp h
 have A4 := aW A4_; have A5 := aW A5_; have A6 := aW A6_
 clear A4_ A5_ A6_
 simp only [Option.some.injEq, Prod.mk.injEq] at h
 obtain ⟨rfl, rfl⟩ := h
 obtain ⟨gr, tr, de, ai, lo, h0⟩ := hI
 have HX := aW (HZ.of h0 hB)
 clear hB h0
 go_enter Tryd.func10, Tryd.ntmps10
 go_wp2
 go_loopg [21] l1.length (fun kq v21 w' => ∃ (x : Int) (i : Nat) (s1 : GccS), v21 = .int .i64 x ∧ Aside0 (kq = l1.length - i) ∧ Aside0 (x = (i : Int) ∧ i ≤ l1.length) ∧ Aside0 (gcc_Gcc_Hear.all k a4 s1 (l1.drop i) = some sN) ∧ Aside0 (HZ w0 w w' g gr tr de ai lo s1))
 case atStart => exact ⟨0, 0, s0_0, o105, ⟨rfl⟩, ⟨rfl, Nat.zero_le _⟩, ⟨A4.out⟩, ⟨(show HZ w0 w _ g gr tr de ai lo s0_0 from o65)⟩⟩
 case round =>
  obtain ⟨x, i, s1, rfl, ⟨rfl⟩, HIX, HA, HX⟩ := hrel
  try clear A4
  by_cases hlt : i < l1.length
  ·have HLT := aW hlt
   have hd := List.drop_eq_getElem_cons hlt
   have hrd : rd_T41 l1 x = l1[i] := by unfold rd_T41; rw [HIX.out.1]; simp [hlt]
   obtain ⟨⟨⟨q, sz, at_⟩, ca, late, ecn⟩, hel⟩ : ∃ y, l1[i] = y := ⟨_, rfl⟩
   rw [hel] at hd hrd
   have HEL := aW hrd
   have ha := HA.out
   rw [hd] at ha
   unfold gcc_Gcc_Hear.all at ha
   obtain ⟨s', hst, HR_⟩ := Option.bind_eq_some_iff.mp ha
   have HR := aW HR_
   clear ha HA HR_ hd hrd hel
   unfold gcc_Gcc_Hear.step at hst
   obtain ⟨⟨⟨d1, d2, d3⟩, b, s2⟩, A1_, hst⟩ := Option.bind_eq_some_iff.mp hst
   have A1 := aW A1_
   clear A1_
   dsimp only at hst
   have PX : Aside0 (0 ≤ x) := ⟨by rw [HIX.out.1]; omega⟩
   have QX : Aside0 (x < (l1.length : Int)) := ⟨by rw [HIX.out.1]; omega⟩
   have c0 : decide (x < (l1.length : Int)) = true := decide_eq_true QX.out
   clear hlt
   cases b with
   | false =>
    rw [if_neg (by decide)] at hst
    obtain rfl := Option.some.inj hst
    clear hst
    obtain ⟨ad, ead, hx0_, hx1_, hx2_, hx3_, hx4_, hx5_⟩ := at_T41 (C_ks hr1 HX.out.ks) x PX.out QX.out
    have hA1 := ead
    rw [HEL.out] at hx0_ hx1_ hx2_ hx3_ hx4_ hx5_
    dsimp only at hx0_ hx1_ hx2_ hx3_ hx4_ hx5_
    subst ead
    have px := eq_true PX.out
    have qx := eq_true QX.out
    go_wp2_with (first | ((with_reducible refine gate_dst (N := 12) rfl ?_); refine box_event ?hg (N := 12) ?hd (cs := #[.int .i64 0, .int .i64 0, .int .i64 0, .int .i64 0, .bool false, .bool false]) (t := 41) ?hr ?_; (case hd => rfl); (case hg => rfl); (case hr => first | (go_simp; done) | (go_simp; rfl)); intro bx hg w7 hbox hb; have GXB := aW (show w.heap.size ≤ bx from by rw [hg]; exact HX.out.ks.1); have n0_ := aW (HZ.below (show HZ w0 w _ g gr tr de ai lo s1 from o65) hb); have BX := aW hbox; clear HX hb hbox hg; have HX := n0_; clear n0_; have hz0_ : w7.cell? ⟨bx, 0, none⟩ = some (.int .i64 0) := (blk_cell BX.out 0).trans rfl; have hzf0_ := blk_frozen BX.out 0; have hz1_ : w7.cell? ⟨bx, 1, none⟩ = some (.int .i64 0) := (blk_cell BX.out 1).trans rfl; have hzf1_ := blk_frozen BX.out 1; have hz2_ : w7.cell? ⟨bx, 2, none⟩ = some (.int .i64 0) := (blk_cell BX.out 2).trans rfl; have hzf2_ := blk_frozen BX.out 2; have hz3_ : w7.cell? ⟨bx, 3, none⟩ = some (.int .i64 0) := (blk_cell BX.out 3).trans rfl; have hzf3_ := blk_frozen BX.out 3; have hz4_ : w7.cell? ⟨bx, 4, none⟩ = some (.bool false) := (blk_cell BX.out 4).trans rfl; have hzf4_ := blk_frozen BX.out 4; have hz5_ : w7.cell? ⟨bx, 5, none⟩ = some (.bool false) := (blk_cell BX.out 5).trans rfl; have hzf5_ := blk_frozen BX.out 5))
    clear hx0_ hx1_ hx2_ hx3_ hx4_ hx5_ px qx
    have n0_ : Aside0 (HZ w0 w ((((((w7.setCell ⟨bx, 0, none⟩ (.int .i64 q)).setCell ⟨bx, 1, none⟩ (.int .i64 sz)).setCell ⟨bx, 2, none⟩ (.int .i64 at_)).setCell ⟨bx, 3, none⟩ (.int .i64 ca)).setCell ⟨bx, 4, none⟩ (.bool late)).setCell ⟨bx, 5, none⟩ (.bool ecn)) g gr tr de ai lo s1) := ⟨(HZ.setb (i := 5) (u := .bool ecn) (HZ.setb (i := 4) (u := .bool late) (HZ.setb (i := 3) (u := .int .i64 ca) (HZ.setb (i := 2) (u := .int .i64 at_) (HZ.setb (i := 1) (u := .int .i64 sz) (HZ.setb (i := 0) (u := .int .i64 q) HX.out BX.out (.inl rfl) GXB.out) (blk_put (cs := #[.int .i64 0, .int .i64 0, .int .i64 0, .int .i64 0, .bool false, .bool false]) BX.out 0 (.int .i64 q) rfl) (.inl rfl) GXB.out) (blk_put (cs := #[.int .i64 q, .int .i64 0, .int .i64 0, .int .i64 0, .bool false, .bool false]) (blk_put (cs := #[.int .i64 0, .int .i64 0, .int .i64 0, .int .i64 0, .bool false, .bool false]) BX.out 0 (.int .i64 q) rfl) 1 (.int .i64 sz) rfl) (.inl rfl) GXB.out) (blk_put (cs := #[.int .i64 q, .int .i64 sz, .int .i64 0, .int .i64 0, .bool false, .bool false]) (blk_put (cs := #[.int .i64 q, .int .i64 0, .int .i64 0, .int .i64 0, .bool false, .bool false]) (blk_put (cs := #[.int .i64 0, .int .i64 0, .int .i64 0, .int .i64 0, .bool false, .bool false]) BX.out 0 (.int .i64 q) rfl) 1 (.int .i64 sz) rfl) 2 (.int .i64 at_) rfl) (.inl rfl) GXB.out) (blk_put (cs := #[.int .i64 q, .int .i64 sz, .int .i64 at_, .int .i64 0, .bool false, .bool false]) (blk_put (cs := #[.int .i64 q, .int .i64 sz, .int .i64 0, .int .i64 0, .bool false, .bool false]) (blk_put (cs := #[.int .i64 q, .int .i64 0, .int .i64 0, .int .i64 0, .bool false, .bool false]) (blk_put (cs := #[.int .i64 0, .int .i64 0, .int .i64 0, .int .i64 0, .bool false, .bool false]) BX.out 0 (.int .i64 q) rfl) 1 (.int .i64 sz) rfl) 2 (.int .i64 at_) rfl) 3 (.int .i64 ca) rfl) (.inl rfl) GXB.out) (blk_put (cs := #[.int .i64 q, .int .i64 sz, .int .i64 at_, .int .i64 ca, .bool false, .bool false]) (blk_put (cs := #[.int .i64 q, .int .i64 sz, .int .i64 at_, .int .i64 0, .bool false, .bool false]) (blk_put (cs := #[.int .i64 q, .int .i64 sz, .int .i64 0, .int .i64 0, .bool false, .bool false]) (blk_put (cs := #[.int .i64 q, .int .i64 0, .int .i64 0, .int .i64 0, .bool false, .bool false]) (blk_put (cs := #[.int .i64 0, .int .i64 0, .int .i64 0, .int .i64 0, .bool false, .bool false]) BX.out 0 (.int .i64 q) rfl) 1 (.int .i64 sz) rfl) 2 (.int .i64 at_) rfl) 3 (.int .i64 ca) rfl) 4 (.bool late) rfl) (.inl rfl) GXB.out)⟩
    have n1_ : Aside0 (((((((w7.setCell ⟨bx, 0, none⟩ (.int .i64 q)).setCell ⟨bx, 1, none⟩ (.int .i64 sz)).setCell ⟨bx, 2, none⟩ (.int .i64 at_)).setCell ⟨bx, 3, none⟩ (.int .i64 ca)).setCell ⟨bx, 4, none⟩ (.bool late)).setCell ⟨bx, 5, none⟩ (.bool ecn)).heap[bx]? = some (.cells #[.int .i64 q, .int .i64 sz, .int .i64 at_, .int .i64 ca, .bool late, .bool ecn] 41 (0, 0))) := ⟨(blk_put (cs := #[.int .i64 q, .int .i64 sz, .int .i64 at_, .int .i64 ca, .bool late, .bool false]) (blk_put (cs := #[.int .i64 q, .int .i64 sz, .int .i64 at_, .int .i64 ca, .bool false, .bool false]) (blk_put (cs := #[.int .i64 q, .int .i64 sz, .int .i64 at_, .int .i64 0, .bool false, .bool false]) (blk_put (cs := #[.int .i64 q, .int .i64 sz, .int .i64 0, .int .i64 0, .bool false, .bool false]) (blk_put (cs := #[.int .i64 q, .int .i64 0, .int .i64 0, .int .i64 0, .bool false, .bool false]) (blk_put (cs := #[.int .i64 0, .int .i64 0, .int .i64 0, .int .i64 0, .bool false, .bool false]) BX.out 0 (.int .i64 q) rfl) 1 (.int .i64 sz) rfl) 2 (.int .i64 at_) rfl) 3 (.int .i64 ca) rfl) 4 (.bool late) rfl) 5 (.bool ecn) rfl)⟩
    clear hz0_ hzf0_ hz1_ hzf1_ hz2_ hzf2_ hz3_ hzf3_ hz4_ hzf4_ hz5_ hzf5_ HX BX
    have HX := n0_; have BX := n1_
    clear n0_ n1_
    generalize ((((((w7.setCell ⟨bx, 0, none⟩ (.int .i64 q)).setCell ⟨bx, 1, none⟩ (.int .i64 sz)).setCell ⟨bx, 2, none⟩ (.int .i64 at_)).setCell ⟨bx, 3, none⟩ (.int .i64 ca)).setCell ⟨bx, 4, none⟩ (.bool late)).setCell ⟨bx, 5, none⟩ (.bool ecn)) = w8 at HX BX ⊢
    have n0_ := aW (HZ.below HX.out (below_drew bR)); have n1_ := aW (blk_below BX.out (below_drew bR))
    clear HX BX
    have HX := n0_; have BX := n1_
    clear n0_ n1_
    refine start_ (n := 13) (S := fun w' => w'.cell? ⟨g, 0, none⟩ = some (.pointer (some ⟨gr, 0, none⟩)) ∧ w'.cell? ⟨bx, 0, none⟩ = some (.int .i64 q) ∧ w'.cell? ⟨bx, 1, none⟩ = some (.int .i64 sz) ∧ w'.cell? ⟨bx, 2, none⟩ = some (.int .i64 at_) ∧ w'.cell? ⟨bx, 3, none⟩ = some (.int .i64 ca) ∧ w'.cell? ⟨bx, 4, none⟩ = some (.bool late) ∧ w'.cell? ⟨bx, 5, none⟩ = some (.bool ecn)) (ds := [11]) (bl 13 0) (by kernel_rfl) rfl rfl ⟨(blk_cell HX.out.st.blk 0).trans rfl, (blk_cell BX.out 0).trans rfl, (blk_cell BX.out 1).trans rfl, (blk_cell BX.out 2).trans rfl, (blk_cell BX.out 3).trans rfl, (blk_cell BX.out 4).trans rfl, (blk_cell BX.out 5).trans rfl⟩ (fun hHeld => ?_); refine with_tabW gcc_Gcc_Hear.tab6 gcc_Gcc_Hear.bits6 (fun HT_ HW_ => ?_)
    generalize World.drew w8 = w9 at HX BX hHeld ⊢
    refine pq_ 0 26 (bl 13 1) HT_ ?_
    refine pq_ 1 27 (bl 13 3) HT_ ?_
    refine pq_ 2 28 (bl 13 7) HT_ ?_
    refine pq_ 3 29 (bl 13 15) HT_ ?_
    refine tq_ 4 30 (bl 13 31) HT_ HW_ hHeld ?_ (hr := by rintro w' ⟨s0_, s1_, s2_, s3_, s4_, s5_, s6_⟩; go_simp; with_reducible rfl)
    refine tq_ 5 31 (bl 13 63) HT_ HW_ hHeld ?_ (hr := by rintro w' ⟨s0_, s1_, s2_, s3_, s4_, s5_, s6_⟩; go_simp; with_reducible rfl)
    refine two_ (i := 6) (j := 10) (Ni := some 32) (Nj := some 13) (bl 13 127) (bl 13 1087) rfl rfl rfl rfl (two_of HT_.out (by kernel_rfl)) (by decide) (by decide) (fun K hK => ?_) (fun K hK => ?_)
    ·refine gD_ Tryd.func19 #[.pointer (some ⟨gr, 0, none⟩), .agg #[.int .i64 q, .int .i64 sz, .int .i64 at_, .int .i64 ca, .bool late, .bool ecn]] ?_
     with_reducible refine (group_Grouper_Add.calls k gr s1.g q sz at_ ca late ecn d1 d2 d3 false s2 w0 _ HX.out.st.gr HX.out.bel A1.out).mono ?_
     rintro e w10 ⟨rfl, hi, hb, hk⟩
     refine ⟨_, rfl, ?_⟩
     have n0_ := aW (HZ.grp_at HX.out hk BX.out (by decide)); have n1_ := aW (HZ.grp HX.out hi hb hk)
     clear BX HX
     have BX := n0_; have HX := n1_
     clear n0_ n1_
     refine hK.out _ _ ⟨(blk_cell HX.out.st.blk 0).trans rfl, (blk_cell BX.out 0).trans rfl, (blk_cell BX.out 1).trans rfl, (blk_cell BX.out 2).trans rfl, (blk_cell BX.out 3).trans rfl, (blk_cell BX.out 4).trans rfl, (blk_cell BX.out 5).trans rfl⟩ (fun hHeld => ?_)
     clear hK K
     refine no_ 32 ?_
     clear hi hb hk
     refine pq_ 7 25 (bl 13 255) HT_ ?_
     refine pq_ 8 33 (bl 13 511) HT_ ?_
     refine pq_ 9 34 (bl 13 1023) HT_ ?_
     refine one_ (i := 10) (N := some 13) (bl 13 2047) rfl rfl (one_of HT_.out (by kernel_rfl)) (by decide) (fun K hK => ?_)
     refine box_step ?hg (N := 13) ?hd (cs := #[.int .i64 0, .int .i64 0, .int .i64 0]) (t := 67) ?hr ?_; (case hd => rfl); (case hg => rfl); (case hr => first | (go_simp; done) | (go_simp; rfl))
     intro bd hgd w11 hbox hb
     have GD := aW (show w.heap.size ≤ bd from by rw [hgd]; exact HX.out.ks.1)
     have BD := aW hbox
     have n0_ := aW (HZ.below HX.out hb); have n1_ := aW (blk_below BX.out hb)
     clear HX BX
     have HX := n0_; have BX := n1_
     clear n0_ n1_
     clear hbox hb hgd
     refine hK.out _ _ ⟨(blk_cell HX.out.st.blk 0).trans rfl, (blk_cell BX.out 0).trans rfl, (blk_cell BX.out 1).trans rfl, (blk_cell BX.out 2).trans rfl, (blk_cell BX.out 3).trans rfl, (blk_cell BX.out 4).trans rfl, (blk_cell BX.out 5).trans rfl⟩ (fun hHeld => ?_)
     clear hK K
     refine no_ 13 ?_
     refine last_ (i := 11) (N := none) (bl 13 4095) rfl rfl (one_of HT_.out (by kernel_rfl)) (by decide) (fun K hK => ?_)
     have hs0_ : w11.cell? ⟨bd, 0, none⟩ = some (.int .i64 0) := (blk_cell BD.out 0).trans rfl; have hsf0_ := blk_frozen BD.out 0; have hs1_ : w11.cell? ⟨bd, 1, none⟩ = some (.int .i64 0) := (blk_cell BD.out 1).trans rfl; have hsf1_ := blk_frozen BD.out 1; have hs2_ : w11.cell? ⟨bd, 2, none⟩ = some (.int .i64 0) := (blk_cell BD.out 2).trans rfl; have hsf2_ := blk_frozen BD.out 2
     refine skip_ (w1 := ?_) (by rfl) rfl ?_ ?_
     rotate_left
     ·go_simp
      rfl
     have n0_ : Aside0 (HZ w0 w (((w11.setCell ⟨bd, 0, none⟩ (.int .i64 d1)).setCell ⟨bd, 1, none⟩ (.int .i64 d2)).setCell ⟨bd, 2, none⟩ (.int .i64 d3)) g gr tr de ai lo { s1 with g := s2 }) := ⟨(HZ.setb (i := 2) (u := .int .i64 d3) (HZ.setb (i := 1) (u := .int .i64 d2) (HZ.setb (i := 0) (u := .int .i64 d1) HX.out BD.out (.inr rfl) GD.out) (blk_put (cs := #[.int .i64 0, .int .i64 0, .int .i64 0]) BD.out 0 (.int .i64 d1) rfl) (.inr rfl) GD.out) (blk_put (cs := #[.int .i64 d1, .int .i64 0, .int .i64 0]) (blk_put (cs := #[.int .i64 0, .int .i64 0, .int .i64 0]) BD.out 0 (.int .i64 d1) rfl) 1 (.int .i64 d2) rfl) (.inr rfl) GD.out)⟩
     have n1_ : Aside0 ((((w11.setCell ⟨bd, 0, none⟩ (.int .i64 d1)).setCell ⟨bd, 1, none⟩ (.int .i64 d2)).setCell ⟨bd, 2, none⟩ (.int .i64 d3)).heap[bd]? = some (.cells #[.int .i64 d1, .int .i64 d2, .int .i64 d3] 67 (0, 0))) := ⟨(blk_put (cs := #[.int .i64 d1, .int .i64 d2, .int .i64 0]) (blk_put (cs := #[.int .i64 d1, .int .i64 0, .int .i64 0]) (blk_put (cs := #[.int .i64 0, .int .i64 0, .int .i64 0]) BD.out 0 (.int .i64 d1) rfl) 1 (.int .i64 d2) rfl) 2 (.int .i64 d3) rfl)⟩
     clear hs0_ hsf0_ hs1_ hsf1_ hs2_ hsf2_ HX BD BX
     have HX := n0_; have BD := n1_
     clear n0_ n1_
     generalize (((w11.setCell ⟨bd, 0, none⟩ (.int .i64 d1)).setCell ⟨bd, 1, none⟩ (.int .i64 d2)).setCell ⟨bd, 2, none⟩ (.int .i64 d3)) = w12 at HX BD ⊢
     refine hK.out _ _ ?_
     clear hK K
     refine pq_ 12 14 (bl 13 8191) HT_ ?_
     refine done_ (done_of HT_.out (by kernel_rfl)) ?_
     clear hHeld HT_ HW_
     go_wp2
     go_roundg (l1.length - (i + 1))
     case measure => have := HIX.out.2; have := HLT.out; omega
     case rel => exact ⟨wrap64 (x + 1), i + 1, { s1 with g := s2 }, rfl, ⟨rfl⟩, ⟨o99, by have := HLT.out; omega⟩, HR, ⟨(show HZ w0 w _ g gr tr de ai lo { s1 with g := s2 } from o65)⟩⟩
    ·refine box_step ?hg (N := 13) ?hd (cs := #[.int .i64 0, .int .i64 0, .int .i64 0]) (t := 67) ?hr ?_; (case hd => rfl); (case hg => rfl); (case hr => first | (go_simp; done) | (go_simp; rfl))
     intro bd hgd w10 hbox hb
     have GD := aW (show w.heap.size ≤ bd from by rw [hgd]; exact HX.out.ks.1)
     have BD := aW hbox
     have n0_ := aW (HZ.below HX.out hb); have n1_ := aW (blk_below BX.out hb)
     clear HX BX
     have HX := n0_; have BX := n1_
     clear n0_ n1_
     clear hbox hb hgd
     refine hK.out _ _ ⟨(blk_cell HX.out.st.blk 0).trans rfl, (blk_cell BX.out 0).trans rfl, (blk_cell BX.out 1).trans rfl, (blk_cell BX.out 2).trans rfl, (blk_cell BX.out 3).trans rfl, (blk_cell BX.out 4).trans rfl, (blk_cell BX.out 5).trans rfl⟩ (fun hHeld => ?_)
     clear hK K
     refine no_ 13 ?_
     refine one_ (i := 6) (N := some 32) (bl 13 1151) rfl rfl (one_of HT_.out (by kernel_rfl)) (by decide) (fun K hK => ?_)
     refine gD_ Tryd.func19 #[.pointer (some ⟨gr, 0, none⟩), .agg #[.int .i64 q, .int .i64 sz, .int .i64 at_, .int .i64 ca, .bool late, .bool ecn]] ?_
     with_reducible refine (group_Grouper_Add.calls k gr s1.g q sz at_ ca late ecn d1 d2 d3 false s2 w0 _ HX.out.st.gr HX.out.bel A1.out).mono ?_
     rintro e w11 ⟨rfl, hi, hb, hk⟩
     refine ⟨_, rfl, ?_⟩
     have n0_ := aW (HZ.grp_at HX.out hk BX.out (by decide)); have n1_ := aW (HZ.grp_at HX.out hk BD.out (by decide)); have n2_ := aW (HZ.grp HX.out hi hb hk)
     clear BX BD HX
     have BX := n0_; have BD := n1_; have HX := n2_
     clear n0_ n1_ n2_
     refine hK.out _ _ ⟨(blk_cell HX.out.st.blk 0).trans rfl, (blk_cell BX.out 0).trans rfl, (blk_cell BX.out 1).trans rfl, (blk_cell BX.out 2).trans rfl, (blk_cell BX.out 3).trans rfl, (blk_cell BX.out 4).trans rfl, (blk_cell BX.out 5).trans rfl⟩ (fun hHeld => ?_)
     clear hK K
     refine no_ 32 ?_
     clear hi hb hk
     refine pq_ 7 25 (bl 13 1279) HT_ ?_
     refine pq_ 8 33 (bl 13 1535) HT_ ?_
     refine pq_ 9 34 (bl 13 2047) HT_ ?_
     refine last_ (i := 11) (N := none) (bl 13 4095) rfl rfl (one_of HT_.out (by kernel_rfl)) (by decide) (fun K hK => ?_)
     have hs0_ : w11.cell? ⟨bd, 0, none⟩ = some (.int .i64 0) := (blk_cell BD.out 0).trans rfl; have hsf0_ := blk_frozen BD.out 0; have hs1_ : w11.cell? ⟨bd, 1, none⟩ = some (.int .i64 0) := (blk_cell BD.out 1).trans rfl; have hsf1_ := blk_frozen BD.out 1; have hs2_ : w11.cell? ⟨bd, 2, none⟩ = some (.int .i64 0) := (blk_cell BD.out 2).trans rfl; have hsf2_ := blk_frozen BD.out 2
     refine skip_ (w1 := ?_) (by rfl) rfl ?_ ?_
     rotate_left
     ·go_simp
      rfl
     have n0_ : Aside0 (HZ w0 w (((w11.setCell ⟨bd, 0, none⟩ (.int .i64 d1)).setCell ⟨bd, 1, none⟩ (.int .i64 d2)).setCell ⟨bd, 2, none⟩ (.int .i64 d3)) g gr tr de ai lo { s1 with g := s2 }) := ⟨(HZ.setb (i := 2) (u := .int .i64 d3) (HZ.setb (i := 1) (u := .int .i64 d2) (HZ.setb (i := 0) (u := .int .i64 d1) HX.out BD.out (.inr rfl) GD.out) (blk_put (cs := #[.int .i64 0, .int .i64 0, .int .i64 0]) BD.out 0 (.int .i64 d1) rfl) (.inr rfl) GD.out) (blk_put (cs := #[.int .i64 d1, .int .i64 0, .int .i64 0]) (blk_put (cs := #[.int .i64 0, .int .i64 0, .int .i64 0]) BD.out 0 (.int .i64 d1) rfl) 1 (.int .i64 d2) rfl) (.inr rfl) GD.out)⟩
     have n1_ : Aside0 ((((w11.setCell ⟨bd, 0, none⟩ (.int .i64 d1)).setCell ⟨bd, 1, none⟩ (.int .i64 d2)).setCell ⟨bd, 2, none⟩ (.int .i64 d3)).heap[bd]? = some (.cells #[.int .i64 d1, .int .i64 d2, .int .i64 d3] 67 (0, 0))) := ⟨(blk_put (cs := #[.int .i64 d1, .int .i64 d2, .int .i64 0]) (blk_put (cs := #[.int .i64 d1, .int .i64 0, .int .i64 0]) (blk_put (cs := #[.int .i64 0, .int .i64 0, .int .i64 0]) BD.out 0 (.int .i64 d1) rfl) 1 (.int .i64 d2) rfl) 2 (.int .i64 d3) rfl)⟩
     clear hs0_ hsf0_ hs1_ hsf1_ hs2_ hsf2_ HX BD BX
     have HX := n0_; have BD := n1_
     clear n0_ n1_
     generalize (((w11.setCell ⟨bd, 0, none⟩ (.int .i64 d1)).setCell ⟨bd, 1, none⟩ (.int .i64 d2)).setCell ⟨bd, 2, none⟩ (.int .i64 d3)) = w12 at HX BD ⊢
     refine hK.out _ _ ?_
     clear hK K
     refine pq_ 12 14 (bl 13 8191) HT_ ?_
     refine done_ (done_of HT_.out (by kernel_rfl)) ?_
     clear hHeld HT_ HW_
     go_wp2
     go_roundg (l1.length - (i + 1))
     case measure => have := HIX.out.2; have := HLT.out; omega
     case rel => exact ⟨wrap64 (x + 1), i + 1, { s1 with g := s2 }, rfl, ⟨rfl⟩, ⟨o99, by have := HLT.out; omega⟩, HR, ⟨(show HZ w0 w _ g gr tr de ai lo { s1 with g := s2 } from o65)⟩⟩
   | true =>
    rw [if_pos rfl] at hst
    obtain ⟨⟨e1, e2, e3, e4, e5, e6, e7, e8, e9⟩, A2_, hst⟩ := Option.bind_eq_some_iff.mp hst
    obtain ⟨⟨f1, f2, f3, f4, f5, f6, f7⟩, A3_, hst⟩ := Option.bind_eq_some_iff.mp hst
    have A2 := aW A2_; have A3 := aW A3_
    clear A2_ A3_
    dsimp only at hst A3
    obtain rfl := Option.some.inj hst
    clear hst
    obtain ⟨ad, ead, hx0_, hx1_, hx2_, hx3_, hx4_, hx5_⟩ := at_T41 (C_ks hr1 HX.out.ks) x PX.out QX.out
    have hA1 := ead
    rw [HEL.out] at hx0_ hx1_ hx2_ hx3_ hx4_ hx5_
    dsimp only at hx0_ hx1_ hx2_ hx3_ hx4_ hx5_
    subst ead
    have px := eq_true PX.out
    have qx := eq_true QX.out
    go_wp2_with (first | ((with_reducible refine gate_dst (N := 12) rfl ?_); refine box_event ?hg (N := 12) ?hd (cs := #[.int .i64 0, .int .i64 0, .int .i64 0, .int .i64 0, .bool false, .bool false]) (t := 41) ?hr ?_; (case hd => rfl); (case hg => rfl); (case hr => first | (go_simp; done) | (go_simp; rfl)); intro bx hg w7 hbox hb; have GXB := aW (show w.heap.size ≤ bx from by rw [hg]; exact HX.out.ks.1); have n0_ := aW (HZ.below (show HZ w0 w _ g gr tr de ai lo s1 from o65) hb); have BX := aW hbox; clear HX hb hbox hg; have HX := n0_; clear n0_; have hz0_ : w7.cell? ⟨bx, 0, none⟩ = some (.int .i64 0) := (blk_cell BX.out 0).trans rfl; have hzf0_ := blk_frozen BX.out 0; have hz1_ : w7.cell? ⟨bx, 1, none⟩ = some (.int .i64 0) := (blk_cell BX.out 1).trans rfl; have hzf1_ := blk_frozen BX.out 1; have hz2_ : w7.cell? ⟨bx, 2, none⟩ = some (.int .i64 0) := (blk_cell BX.out 2).trans rfl; have hzf2_ := blk_frozen BX.out 2; have hz3_ : w7.cell? ⟨bx, 3, none⟩ = some (.int .i64 0) := (blk_cell BX.out 3).trans rfl; have hzf3_ := blk_frozen BX.out 3; have hz4_ : w7.cell? ⟨bx, 4, none⟩ = some (.bool false) := (blk_cell BX.out 4).trans rfl; have hzf4_ := blk_frozen BX.out 4; have hz5_ : w7.cell? ⟨bx, 5, none⟩ = some (.bool false) := (blk_cell BX.out 5).trans rfl; have hzf5_ := blk_frozen BX.out 5))
    clear hx0_ hx1_ hx2_ hx3_ hx4_ hx5_ px qx
    have n0_ : Aside0 (HZ w0 w ((((((w7.setCell ⟨bx, 0, none⟩ (.int .i64 q)).setCell ⟨bx, 1, none⟩ (.int .i64 sz)).setCell ⟨bx, 2, none⟩ (.int .i64 at_)).setCell ⟨bx, 3, none⟩ (.int .i64 ca)).setCell ⟨bx, 4, none⟩ (.bool late)).setCell ⟨bx, 5, none⟩ (.bool ecn)) g gr tr de ai lo s1) := ⟨(HZ.setb (i := 5) (u := .bool ecn) (HZ.setb (i := 4) (u := .bool late) (HZ.setb (i := 3) (u := .int .i64 ca) (HZ.setb (i := 2) (u := .int .i64 at_) (HZ.setb (i := 1) (u := .int .i64 sz) (HZ.setb (i := 0) (u := .int .i64 q) HX.out BX.out (.inl rfl) GXB.out) (blk_put (cs := #[.int .i64 0, .int .i64 0, .int .i64 0, .int .i64 0, .bool false, .bool false]) BX.out 0 (.int .i64 q) rfl) (.inl rfl) GXB.out) (blk_put (cs := #[.int .i64 q, .int .i64 0, .int .i64 0, .int .i64 0, .bool false, .bool false]) (blk_put (cs := #[.int .i64 0, .int .i64 0, .int .i64 0, .int .i64 0, .bool false, .bool false]) BX.out 0 (.int .i64 q) rfl) 1 (.int .i64 sz) rfl) (.inl rfl) GXB.out) (blk_put (cs := #[.int .i64 q, .int .i64 sz, .int .i64 0, .int .i64 0, .bool false, .bool false]) (blk_put (cs := #[.int .i64 q, .int .i64 0, .int .i64 0, .int .i64 0, .bool false, .bool false]) (blk_put (cs := #[.int .i64 0, .int .i64 0, .int .i64 0, .int .i64 0, .bool false, .bool false]) BX.out 0 (.int .i64 q) rfl) 1 (.int .i64 sz) rfl) 2 (.int .i64 at_) rfl) (.inl rfl) GXB.out) (blk_put (cs := #[.int .i64 q, .int .i64 sz, .int .i64 at_, .int .i64 0, .bool false, .bool false]) (blk_put (cs := #[.int .i64 q, .int .i64 sz, .int .i64 0, .int .i64 0, .bool false, .bool false]) (blk_put (cs := #[.int .i64 q, .int .i64 0, .int .i64 0, .int .i64 0, .bool false, .bool false]) (blk_put (cs := #[.int .i64 0, .int .i64 0, .int .i64 0, .int .i64 0, .bool false, .bool false]) BX.out 0 (.int .i64 q) rfl) 1 (.int .i64 sz) rfl) 2 (.int .i64 at_) rfl) 3 (.int .i64 ca) rfl) (.inl rfl) GXB.out) (blk_put (cs := #[.int .i64 q, .int .i64 sz, .int .i64 at_, .int .i64 ca, .bool false, .bool false]) (blk_put (cs := #[.int .i64 q, .int .i64 sz, .int .i64 at_, .int .i64 0, .bool false, .bool false]) (blk_put (cs := #[.int .i64 q, .int .i64 sz, .int .i64 0, .int .i64 0, .bool false, .bool false]) (blk_put (cs := #[.int .i64 q, .int .i64 0, .int .i64 0, .int .i64 0, .bool false, .bool false]) (blk_put (cs := #[.int .i64 0, .int .i64 0, .int .i64 0, .int .i64 0, .bool false, .bool false]) BX.out 0 (.int .i64 q) rfl) 1 (.int .i64 sz) rfl) 2 (.int .i64 at_) rfl) 3 (.int .i64 ca) rfl) 4 (.bool late) rfl) (.inl rfl) GXB.out)⟩
    have n1_ : Aside0 (((((((w7.setCell ⟨bx, 0, none⟩ (.int .i64 q)).setCell ⟨bx, 1, none⟩ (.int .i64 sz)).setCell ⟨bx, 2, none⟩ (.int .i64 at_)).setCell ⟨bx, 3, none⟩ (.int .i64 ca)).setCell ⟨bx, 4, none⟩ (.bool late)).setCell ⟨bx, 5, none⟩ (.bool ecn)).heap[bx]? = some (.cells #[.int .i64 q, .int .i64 sz, .int .i64 at_, .int .i64 ca, .bool late, .bool ecn] 41 (0, 0))) := ⟨(blk_put (cs := #[.int .i64 q, .int .i64 sz, .int .i64 at_, .int .i64 ca, .bool late, .bool false]) (blk_put (cs := #[.int .i64 q, .int .i64 sz, .int .i64 at_, .int .i64 ca, .bool false, .bool false]) (blk_put (cs := #[.int .i64 q, .int .i64 sz, .int .i64 at_, .int .i64 0, .bool false, .bool false]) (blk_put (cs := #[.int .i64 q, .int .i64 sz, .int .i64 0, .int .i64 0, .bool false, .bool false]) (blk_put (cs := #[.int .i64 q, .int .i64 0, .int .i64 0, .int .i64 0, .bool false, .bool false]) (blk_put (cs := #[.int .i64 0, .int .i64 0, .int .i64 0, .int .i64 0, .bool false, .bool false]) BX.out 0 (.int .i64 q) rfl) 1 (.int .i64 sz) rfl) 2 (.int .i64 at_) rfl) 3 (.int .i64 ca) rfl) 4 (.bool late) rfl) 5 (.bool ecn) rfl)⟩
    clear hz0_ hzf0_ hz1_ hzf1_ hz2_ hzf2_ hz3_ hzf3_ hz4_ hzf4_ hz5_ hzf5_ HX BX
    have HX := n0_; have BX := n1_
    clear n0_ n1_
    generalize ((((((w7.setCell ⟨bx, 0, none⟩ (.int .i64 q)).setCell ⟨bx, 1, none⟩ (.int .i64 sz)).setCell ⟨bx, 2, none⟩ (.int .i64 at_)).setCell ⟨bx, 3, none⟩ (.int .i64 ca)).setCell ⟨bx, 4, none⟩ (.bool late)).setCell ⟨bx, 5, none⟩ (.bool ecn)) = w8 at HX BX ⊢
    have n0_ := aW (HZ.below HX.out (below_drew bR)); have n1_ := aW (blk_below BX.out (below_drew bR))
    clear HX BX
    have HX := n0_; have BX := n1_
    clear n0_ n1_
    refine start_ (n := 13) (S := fun w' => w'.cell? ⟨g, 0, none⟩ = some (.pointer (some ⟨gr, 0, none⟩)) ∧ w'.cell? ⟨bx, 0, none⟩ = some (.int .i64 q) ∧ w'.cell? ⟨bx, 1, none⟩ = some (.int .i64 sz) ∧ w'.cell? ⟨bx, 2, none⟩ = some (.int .i64 at_) ∧ w'.cell? ⟨bx, 3, none⟩ = some (.int .i64 ca) ∧ w'.cell? ⟨bx, 4, none⟩ = some (.bool late) ∧ w'.cell? ⟨bx, 5, none⟩ = some (.bool ecn)) (ds := [11]) (bl 13 0) (by kernel_rfl) rfl rfl ⟨(blk_cell HX.out.st.blk 0).trans rfl, (blk_cell BX.out 0).trans rfl, (blk_cell BX.out 1).trans rfl, (blk_cell BX.out 2).trans rfl, (blk_cell BX.out 3).trans rfl, (blk_cell BX.out 4).trans rfl, (blk_cell BX.out 5).trans rfl⟩ (fun hHeld => ?_); refine with_tabW gcc_Gcc_Hear.tab6 gcc_Gcc_Hear.bits6 (fun HT_ HW_ => ?_)
    generalize World.drew w8 = w9 at HX BX hHeld ⊢
    refine pq_ 0 26 (bl 13 1) HT_ ?_
    refine pq_ 1 27 (bl 13 3) HT_ ?_
    refine pq_ 2 28 (bl 13 7) HT_ ?_
    refine pq_ 3 29 (bl 13 15) HT_ ?_
    refine tq_ 4 30 (bl 13 31) HT_ HW_ hHeld ?_ (hr := by rintro w' ⟨s0_, s1_, s2_, s3_, s4_, s5_, s6_⟩; go_simp; with_reducible rfl)
    refine tq_ 5 31 (bl 13 63) HT_ HW_ hHeld ?_ (hr := by rintro w' ⟨s0_, s1_, s2_, s3_, s4_, s5_, s6_⟩; go_simp; with_reducible rfl)
    refine two_ (i := 6) (j := 10) (Ni := some 32) (Nj := some 13) (bl 13 127) (bl 13 1087) rfl rfl rfl rfl (two_of HT_.out (by kernel_rfl)) (by decide) (by decide) (fun K hK => ?_) (fun K hK => ?_)
    ·refine gD_ Tryd.func19 #[.pointer (some ⟨gr, 0, none⟩), .agg #[.int .i64 q, .int .i64 sz, .int .i64 at_, .int .i64 ca, .bool late, .bool ecn]] ?_
     with_reducible refine (group_Grouper_Add.calls k gr s1.g q sz at_ ca late ecn d1 d2 d3 true s2 w0 _ HX.out.st.gr HX.out.bel A1.out).mono ?_
     rintro e w10 ⟨rfl, hi, hb, hk⟩
     refine ⟨_, rfl, ?_⟩
     have n0_ := aW (HZ.grp_at HX.out hk BX.out (by decide)); have n1_ := aW (HZ.grp HX.out hi hb hk)
     clear BX HX
     have BX := n0_; have HX := n1_
     clear n0_ n1_
     refine hK.out _ _ ⟨(blk_cell HX.out.st.blk 0).trans rfl, (blk_cell BX.out 0).trans rfl, (blk_cell BX.out 1).trans rfl, (blk_cell BX.out 2).trans rfl, (blk_cell BX.out 3).trans rfl, (blk_cell BX.out 4).trans rfl, (blk_cell BX.out 5).trans rfl⟩ (fun hHeld => ?_)
     clear hK K
     refine no_ 32 ?_
     clear hi hb hk
     refine pq_ 7 25 (bl 13 255) HT_ ?_
     refine pq_ 8 33 (bl 13 511) HT_ ?_
     refine pq_ 9 34 (bl 13 1023) HT_ ?_
     refine one_ (i := 10) (N := some 13) (bl 13 2047) rfl rfl (one_of HT_.out (by kernel_rfl)) (by decide) (fun K hK => ?_)
     refine box_step ?hg (N := 13) ?hd (cs := #[.int .i64 0, .int .i64 0, .int .i64 0]) (t := 67) ?hr ?_; (case hd => rfl); (case hg => rfl); (case hr => first | (go_simp; done) | (go_simp; rfl))
     intro bd hgd w11 hbox hb
     have GD := aW (show w.heap.size ≤ bd from by rw [hgd]; exact HX.out.ks.1)
     have BD := aW hbox
     have n0_ := aW (HZ.below HX.out hb); have n1_ := aW (blk_below BX.out hb)
     clear HX BX
     have HX := n0_; have BX := n1_
     clear n0_ n1_
     clear hbox hb hgd
     refine hK.out _ _ ⟨(blk_cell HX.out.st.blk 0).trans rfl, (blk_cell BX.out 0).trans rfl, (blk_cell BX.out 1).trans rfl, (blk_cell BX.out 2).trans rfl, (blk_cell BX.out 3).trans rfl, (blk_cell BX.out 4).trans rfl, (blk_cell BX.out 5).trans rfl⟩ (fun hHeld => ?_)
     clear hK K
     refine no_ 13 ?_
     refine last_ (i := 11) (N := none) (bl 13 4095) rfl rfl (one_of HT_.out (by kernel_rfl)) (by decide) (fun K hK => ?_)
     have hs0_ : w11.cell? ⟨bd, 0, none⟩ = some (.int .i64 0) := (blk_cell BD.out 0).trans rfl; have hsf0_ := blk_frozen BD.out 0; have hs1_ : w11.cell? ⟨bd, 1, none⟩ = some (.int .i64 0) := (blk_cell BD.out 1).trans rfl; have hsf1_ := blk_frozen BD.out 1; have hs2_ : w11.cell? ⟨bd, 2, none⟩ = some (.int .i64 0) := (blk_cell BD.out 2).trans rfl; have hsf2_ := blk_frozen BD.out 2
     refine skip_ (w1 := ?_) (by rfl) rfl ?_ ?_
     rotate_left
     ·go_simp
      rfl
     have n0_ : Aside0 (HZ w0 w (((w11.setCell ⟨bd, 0, none⟩ (.int .i64 d1)).setCell ⟨bd, 1, none⟩ (.int .i64 d2)).setCell ⟨bd, 2, none⟩ (.int .i64 d3)) g gr tr de ai lo { s1 with g := s2 }) := ⟨(HZ.setb (i := 2) (u := .int .i64 d3) (HZ.setb (i := 1) (u := .int .i64 d2) (HZ.setb (i := 0) (u := .int .i64 d1) HX.out BD.out (.inr rfl) GD.out) (blk_put (cs := #[.int .i64 0, .int .i64 0, .int .i64 0]) BD.out 0 (.int .i64 d1) rfl) (.inr rfl) GD.out) (blk_put (cs := #[.int .i64 d1, .int .i64 0, .int .i64 0]) (blk_put (cs := #[.int .i64 0, .int .i64 0, .int .i64 0]) BD.out 0 (.int .i64 d1) rfl) 1 (.int .i64 d2) rfl) (.inr rfl) GD.out)⟩
     have n1_ : Aside0 ((((w11.setCell ⟨bd, 0, none⟩ (.int .i64 d1)).setCell ⟨bd, 1, none⟩ (.int .i64 d2)).setCell ⟨bd, 2, none⟩ (.int .i64 d3)).heap[bd]? = some (.cells #[.int .i64 d1, .int .i64 d2, .int .i64 d3] 67 (0, 0))) := ⟨(blk_put (cs := #[.int .i64 d1, .int .i64 d2, .int .i64 0]) (blk_put (cs := #[.int .i64 d1, .int .i64 0, .int .i64 0]) (blk_put (cs := #[.int .i64 0, .int .i64 0, .int .i64 0]) BD.out 0 (.int .i64 d1) rfl) 1 (.int .i64 d2) rfl) 2 (.int .i64 d3) rfl)⟩
     clear hs0_ hsf0_ hs1_ hsf1_ hs2_ hsf2_ HX BD BX
     have HX := n0_; have BD := n1_
     clear n0_ n1_
     generalize (((w11.setCell ⟨bd, 0, none⟩ (.int .i64 d1)).setCell ⟨bd, 1, none⟩ (.int .i64 d2)).setCell ⟨bd, 2, none⟩ (.int .i64 d3)) = w12 at HX BD ⊢
     refine hK.out _ _ ?_
     clear hK K
     refine pq_ 12 14 (bl 13 8191) HT_ ?_
     refine done_ (done_of HT_.out (by kernel_rfl)) ?_
     clear hHeld HT_ HW_
     try go_wp2
     have n0_ := aW (HZ.below HX.out (below_drew bR)); have n1_ := aW (blk_below BD.out (below_drew bR))
     clear HX BD
     have HX := n0_; have BD := n1_
     clear n0_ n1_
     refine start_ (n := 11) (S := fun w' => w'.cell? ⟨g, 1, none⟩ = some (.pointer (some ⟨tr, 0, none⟩)) ∧ w'.cell? ⟨bd, 0, none⟩ = some (.int .i64 d1) ∧ w'.cell? ⟨bd, 1, none⟩ = some (.int .i64 d2)) (ds := []) (bl 11 0) (by kernel_rfl) rfl rfl ⟨(blk_cell HX.out.st.blk 1).trans rfl, (blk_cell BD.out 0).trans rfl, (blk_cell BD.out 1).trans rfl⟩ (fun hHeld => ?_); refine with_tabW gcc_Gcc_Hear.tab8 gcc_Gcc_Hear.bits8 (fun HT_ HW_ => ?_)
     generalize World.drew w12 = w13 at HX BD hHeld ⊢
     refine pq_ 0 36 (bl 11 1) HT_ ?_
     refine pq_ 1 37 (bl 11 3) HT_ ?_
     refine pq_ 2 38 (bl 11 7) HT_ ?_
     refine pq_ 3 39 (bl 11 15) HT_ ?_
     refine tq_ 4 40 (bl 11 31) HT_ HW_ hHeld ?_ (hr := by rintro w' ⟨s0_, s1_, s2_⟩; go_simp; with_reducible rfl)
     refine pq_ 5 41 (bl 11 63) HT_ ?_
     refine tq_ 6 42 (bl 11 127) HT_ HW_ hHeld ?_ (hr := by rintro w' ⟨s0_, s1_, s2_⟩; go_simp; with_reducible rfl)
     refine pq_ 7 43 (bl 11 255) HT_ ?_
     refine tq_ 8 44 (bl 11 511) HT_ HW_ hHeld ?_ (hr := by rintro w' ⟨s0_, s1_, s2_⟩; go_simp; with_reducible rfl)
     refine one_ (i := 9) (N := some 45) (bl 11 1023) rfl rfl (one_of HT_.out (by kernel_rfl)) (by decide) (fun K hK => ?_)
     refine gD_ Tryd.func20 #[.pointer (some ⟨tr, 0, none⟩), .int .i64 d1, .int .i64 d2] ?_
     with_reducible refine (trend_Trend_Add.callsP (PT w13) k tr s1.t.w s1.t.s s1.t.m s1.t.y s1.t.x s1.t.xs s1.t.ys s1.t.c d1 d2 e1 e2 e3 e4 e5 e6 e7 e8 e9 w0 _ (fun j hj => pt_fresh hj) (IsS88.own HX.out.st.tr) HX.out.bel A2.out).mono ?_
     rintro e w14 ⟨rfl, hi, hb, hk⟩
     refine ⟨_, rfl, ?_⟩
     have n0_ := aW (pt_other hk BD.out (by decide) (by decide)); have n1_ := aW (HZ.trd HX.out hi hb hk)
     clear BD HX
     have BD := n0_; have HX := n1_
     clear n0_ n1_
     refine hK.out _ _ ⟨(blk_cell HX.out.st.blk 1).trans rfl, (blk_cell BD.out 0).trans rfl, (blk_cell BD.out 1).trans rfl⟩ (fun hHeld => ?_)
     clear hK K
     refine no_ 45 ?_
     clear hi hb hk
     refine pq_ 10 15 (bl 11 2047) HT_ ?_
     refine done_ (done_of HT_.out (by kernel_rfl)) ?_
     clear hHeld HT_ HW_
     try go_wp2
     have n0_ := aW (HZ.below HX.out (below_drew bR)); have n1_ := aW (blk_below BD.out (below_drew bR))
     clear HX BD
     have HX := n0_; have BD := n1_
     clear n0_ n1_
     refine start_ (n := 16) (S := fun w' => w'.cell? ⟨g, 1, none⟩ = some (.pointer (some ⟨tr, 0, none⟩)) ∧ w'.cell? ⟨g, 2, none⟩ = some (.pointer (some ⟨de, 0, none⟩)) ∧ w'.cell? ⟨bd, 0, none⟩ = some (.int .i64 d1)) (ds := []) (bl 16 0) (by kernel_rfl) rfl rfl ⟨(blk_cell HX.out.st.blk 1).trans rfl, (blk_cell HX.out.st.blk 2).trans rfl, (blk_cell BD.out 0).trans rfl⟩ (fun hHeld => ?_); refine with_tabW gcc_Gcc_Hear.tab9 gcc_Gcc_Hear.bits9 (fun HT_ HW_ => ?_)
     generalize World.drew w14 = w15 at HX BD hHeld ⊢
     refine pq_ 0 46 (bl 16 1) HT_ ?_
     refine pq_ 1 47 (bl 16 3) HT_ ?_
     refine pq_ 2 48 (bl 16 7) HT_ ?_
     refine pq_ 3 49 (bl 16 15) HT_ ?_
     refine tq_ 4 50 (bl 16 31) HT_ HW_ hHeld ?_ (hr := by rintro w' ⟨s0_, s1_, s2_⟩; go_simp; with_reducible rfl)
     refine pq_ 5 51 (bl 16 63) HT_ ?_
     refine pq_ 6 52 (bl 16 127) HT_ ?_
     refine pq_ 7 53 (bl 16 255) HT_ ?_
     refine pq_ 8 54 (bl 16 511) HT_ ?_
     refine pq_ 9 55 (bl 16 1023) HT_ ?_
     refine tq_ 10 56 (bl 16 2047) HT_ HW_ hHeld ?_ (hr := by rintro w' ⟨s0_, s1_, s2_⟩; go_simp; with_reducible rfl)
     refine pq_ 12 58 (bl 16 6143) HT_ ?_
     refine tq_ 13 59 (bl 16 14335) HT_ HW_ hHeld ?_ (hr := by rintro w' ⟨s0_, s1_, s2_⟩; go_simp; with_reducible rfl)
     refine pq_ 14 60 (bl 16 30719) HT_ ?_
     refine one_ (i := 11) (N := some 57) (bl 16 32767) rfl rfl (one_of HT_.out (by kernel_rfl)) (by decide) (fun K hK => ?_)
     refine gD_ Tryd.func22 #[.pointer (some ⟨tr, 0, none⟩)] ?_
     with_reducible refine (trend_Trend_Count.calls tr e2 e3 e4 e5 e6 e7 e8 e9 w0 _ HX.out.st.tr).mono ?_
     rintro e w16 ⟨rfl, hb⟩
     refine ⟨_, rfl, ?_⟩
     have n0_ := aW (blk_below BD.out hb); have n1_ := aW (HZ.below HX.out hb)
     clear BD HX
     have BD := n0_; have HX := n1_
     clear n0_ n1_
     refine hK.out _ _ ⟨(blk_cell HX.out.st.blk 1).trans rfl, (blk_cell HX.out.st.blk 2).trans rfl, (blk_cell BD.out 0).trans rfl⟩ (fun hHeld => ?_)
     clear hK K
     refine no_ 57 ?_
     clear hb
     refine one_ (i := 15) (N := some 61) (bl 16 65535) rfl rfl (one_of HT_.out (by kernel_rfl)) (by decide) (fun K hK => ?_)
     refine gD_ Tryd.func21 #[.pointer (some ⟨de, 0, none⟩), .int .i64 e1, .int .i64 e9, .int .i64 d1, .int .i64 a4] ?_
     with_reducible refine (detect_Detector_Add.calls k de s1.d0 s1.d1 s1.d2 s1.d3 s1.d4 s1.d5 e1 e9 d1 a4 f1 f2 f3 f4 f5 f6 f7 w0 _ HX.out.st.de HX.out.bel A3.out).mono ?_
     rintro e w17 ⟨rfl, hi, hb, hk⟩
     refine ⟨_, rfl, ?_⟩
     have n0_ := aW (kb_at hk BD.out (bkt BD.out HX.out.st.de.1 (by decide))); have n1_ := aW (HZ.det HX.out hi hb hk)
     clear BD HX
     have BD := n0_; have HX := n1_
     clear n0_ n1_
     refine hK.out _ _ ⟨(blk_cell HX.out.st.blk 1).trans rfl, (blk_cell HX.out.st.blk 2).trans rfl, (blk_cell BD.out 0).trans rfl⟩ (fun hHeld => ?_)
     clear hK K
     refine no_ 61 ?_
     clear hi hb hk
     refine done_ (done_of HT_.out (by kernel_rfl)) ?_
     clear hHeld HT_ HW_
     try go_wp2
     go_roundg (l1.length - (i + 1))
     case measure => have := HIX.out.2; have := HLT.out; omega
     case rel => exact ⟨wrap64 (x + 1), i + 1, { s1 with g := s2, t := ⟨e2, e3, e4, e5, e6, e7, e8, e9⟩, d0 := f2, d1 := f3, d2 := f4, d3 := f5, d4 := f6, d5 := f7 }, rfl, ⟨rfl⟩, ⟨o99, by have := HLT.out; omega⟩, HR, ⟨(show HZ w0 w _ g gr tr de ai lo { s1 with g := s2, t := ⟨e2, e3, e4, e5, e6, e7, e8, e9⟩, d0 := f2, d1 := f3, d2 := f4, d3 := f5, d4 := f6, d5 := f7 } from o65)⟩⟩
    ·refine box_step ?hg (N := 13) ?hd (cs := #[.int .i64 0, .int .i64 0, .int .i64 0]) (t := 67) ?hr ?_; (case hd => rfl); (case hg => rfl); (case hr => first | (go_simp; done) | (go_simp; rfl))
     intro bd hgd w10 hbox hb
     have GD := aW (show w.heap.size ≤ bd from by rw [hgd]; exact HX.out.ks.1)
     have BD := aW hbox
     have n0_ := aW (HZ.below HX.out hb); have n1_ := aW (blk_below BX.out hb)
     clear HX BX
     have HX := n0_; have BX := n1_
     clear n0_ n1_
     clear hbox hb hgd
     refine hK.out _ _ ⟨(blk_cell HX.out.st.blk 0).trans rfl, (blk_cell BX.out 0).trans rfl, (blk_cell BX.out 1).trans rfl, (blk_cell BX.out 2).trans rfl, (blk_cell BX.out 3).trans rfl, (blk_cell BX.out 4).trans rfl, (blk_cell BX.out 5).trans rfl⟩ (fun hHeld => ?_)
     clear hK K
     refine no_ 13 ?_
     refine one_ (i := 6) (N := some 32) (bl 13 1151) rfl rfl (one_of HT_.out (by kernel_rfl)) (by decide) (fun K hK => ?_)
     refine gD_ Tryd.func19 #[.pointer (some ⟨gr, 0, none⟩), .agg #[.int .i64 q, .int .i64 sz, .int .i64 at_, .int .i64 ca, .bool late, .bool ecn]] ?_
     with_reducible refine (group_Grouper_Add.calls k gr s1.g q sz at_ ca late ecn d1 d2 d3 true s2 w0 _ HX.out.st.gr HX.out.bel A1.out).mono ?_
     rintro e w11 ⟨rfl, hi, hb, hk⟩
     refine ⟨_, rfl, ?_⟩
     have n0_ := aW (HZ.grp_at HX.out hk BX.out (by decide)); have n1_ := aW (HZ.grp_at HX.out hk BD.out (by decide)); have n2_ := aW (HZ.grp HX.out hi hb hk)
     clear BX BD HX
     have BX := n0_; have BD := n1_; have HX := n2_
     clear n0_ n1_ n2_
     refine hK.out _ _ ⟨(blk_cell HX.out.st.blk 0).trans rfl, (blk_cell BX.out 0).trans rfl, (blk_cell BX.out 1).trans rfl, (blk_cell BX.out 2).trans rfl, (blk_cell BX.out 3).trans rfl, (blk_cell BX.out 4).trans rfl, (blk_cell BX.out 5).trans rfl⟩ (fun hHeld => ?_)
     clear hK K
     refine no_ 32 ?_
     clear hi hb hk
     refine pq_ 7 25 (bl 13 1279) HT_ ?_
     refine pq_ 8 33 (bl 13 1535) HT_ ?_
     refine pq_ 9 34 (bl 13 2047) HT_ ?_
     refine last_ (i := 11) (N := none) (bl 13 4095) rfl rfl (one_of HT_.out (by kernel_rfl)) (by decide) (fun K hK => ?_)
     have hs0_ : w11.cell? ⟨bd, 0, none⟩ = some (.int .i64 0) := (blk_cell BD.out 0).trans rfl; have hsf0_ := blk_frozen BD.out 0; have hs1_ : w11.cell? ⟨bd, 1, none⟩ = some (.int .i64 0) := (blk_cell BD.out 1).trans rfl; have hsf1_ := blk_frozen BD.out 1; have hs2_ : w11.cell? ⟨bd, 2, none⟩ = some (.int .i64 0) := (blk_cell BD.out 2).trans rfl; have hsf2_ := blk_frozen BD.out 2
     refine skip_ (w1 := ?_) (by rfl) rfl ?_ ?_
     rotate_left
     ·go_simp
      rfl
     have n0_ : Aside0 (HZ w0 w (((w11.setCell ⟨bd, 0, none⟩ (.int .i64 d1)).setCell ⟨bd, 1, none⟩ (.int .i64 d2)).setCell ⟨bd, 2, none⟩ (.int .i64 d3)) g gr tr de ai lo { s1 with g := s2 }) := ⟨(HZ.setb (i := 2) (u := .int .i64 d3) (HZ.setb (i := 1) (u := .int .i64 d2) (HZ.setb (i := 0) (u := .int .i64 d1) HX.out BD.out (.inr rfl) GD.out) (blk_put (cs := #[.int .i64 0, .int .i64 0, .int .i64 0]) BD.out 0 (.int .i64 d1) rfl) (.inr rfl) GD.out) (blk_put (cs := #[.int .i64 d1, .int .i64 0, .int .i64 0]) (blk_put (cs := #[.int .i64 0, .int .i64 0, .int .i64 0]) BD.out 0 (.int .i64 d1) rfl) 1 (.int .i64 d2) rfl) (.inr rfl) GD.out)⟩
     have n1_ : Aside0 ((((w11.setCell ⟨bd, 0, none⟩ (.int .i64 d1)).setCell ⟨bd, 1, none⟩ (.int .i64 d2)).setCell ⟨bd, 2, none⟩ (.int .i64 d3)).heap[bd]? = some (.cells #[.int .i64 d1, .int .i64 d2, .int .i64 d3] 67 (0, 0))) := ⟨(blk_put (cs := #[.int .i64 d1, .int .i64 d2, .int .i64 0]) (blk_put (cs := #[.int .i64 d1, .int .i64 0, .int .i64 0]) (blk_put (cs := #[.int .i64 0, .int .i64 0, .int .i64 0]) BD.out 0 (.int .i64 d1) rfl) 1 (.int .i64 d2) rfl) 2 (.int .i64 d3) rfl)⟩
     clear hs0_ hsf0_ hs1_ hsf1_ hs2_ hsf2_ HX BD BX
     have HX := n0_; have BD := n1_
     clear n0_ n1_
     generalize (((w11.setCell ⟨bd, 0, none⟩ (.int .i64 d1)).setCell ⟨bd, 1, none⟩ (.int .i64 d2)).setCell ⟨bd, 2, none⟩ (.int .i64 d3)) = w12 at HX BD ⊢
     refine hK.out _ _ ?_
     clear hK K
     refine pq_ 12 14 (bl 13 8191) HT_ ?_
     refine done_ (done_of HT_.out (by kernel_rfl)) ?_
     clear hHeld HT_ HW_
     try go_wp2
     have n0_ := aW (HZ.below HX.out (below_drew bR)); have n1_ := aW (blk_below BD.out (below_drew bR))
     clear HX BD
     have HX := n0_; have BD := n1_
     clear n0_ n1_
     refine start_ (n := 11) (S := fun w' => w'.cell? ⟨g, 1, none⟩ = some (.pointer (some ⟨tr, 0, none⟩)) ∧ w'.cell? ⟨bd, 0, none⟩ = some (.int .i64 d1) ∧ w'.cell? ⟨bd, 1, none⟩ = some (.int .i64 d2)) (ds := []) (bl 11 0) (by kernel_rfl) rfl rfl ⟨(blk_cell HX.out.st.blk 1).trans rfl, (blk_cell BD.out 0).trans rfl, (blk_cell BD.out 1).trans rfl⟩ (fun hHeld => ?_); refine with_tabW gcc_Gcc_Hear.tab8 gcc_Gcc_Hear.bits8 (fun HT_ HW_ => ?_)
     generalize World.drew w12 = w13 at HX BD hHeld ⊢
     refine pq_ 0 36 (bl 11 1) HT_ ?_
     refine pq_ 1 37 (bl 11 3) HT_ ?_
     refine pq_ 2 38 (bl 11 7) HT_ ?_
     refine pq_ 3 39 (bl 11 15) HT_ ?_
     refine tq_ 4 40 (bl 11 31) HT_ HW_ hHeld ?_ (hr := by rintro w' ⟨s0_, s1_, s2_⟩; go_simp; with_reducible rfl)
     refine pq_ 5 41 (bl 11 63) HT_ ?_
     refine tq_ 6 42 (bl 11 127) HT_ HW_ hHeld ?_ (hr := by rintro w' ⟨s0_, s1_, s2_⟩; go_simp; with_reducible rfl)
     refine pq_ 7 43 (bl 11 255) HT_ ?_
     refine tq_ 8 44 (bl 11 511) HT_ HW_ hHeld ?_ (hr := by rintro w' ⟨s0_, s1_, s2_⟩; go_simp; with_reducible rfl)
     refine one_ (i := 9) (N := some 45) (bl 11 1023) rfl rfl (one_of HT_.out (by kernel_rfl)) (by decide) (fun K hK => ?_)
     refine gD_ Tryd.func20 #[.pointer (some ⟨tr, 0, none⟩), .int .i64 d1, .int .i64 d2] ?_
     with_reducible refine (trend_Trend_Add.callsP (PT w13) k tr s1.t.w s1.t.s s1.t.m s1.t.y s1.t.x s1.t.xs s1.t.ys s1.t.c d1 d2 e1 e2 e3 e4 e5 e6 e7 e8 e9 w0 _ (fun j hj => pt_fresh hj) (IsS88.own HX.out.st.tr) HX.out.bel A2.out).mono ?_
     rintro e w14 ⟨rfl, hi, hb, hk⟩
     refine ⟨_, rfl, ?_⟩
     have n0_ := aW (pt_other hk BD.out (by decide) (by decide)); have n1_ := aW (HZ.trd HX.out hi hb hk)
     clear BD HX
     have BD := n0_; have HX := n1_
     clear n0_ n1_
     refine hK.out _ _ ⟨(blk_cell HX.out.st.blk 1).trans rfl, (blk_cell BD.out 0).trans rfl, (blk_cell BD.out 1).trans rfl⟩ (fun hHeld => ?_)
     clear hK K
     refine no_ 45 ?_
     clear hi hb hk
     refine pq_ 10 15 (bl 11 2047) HT_ ?_
     refine done_ (done_of HT_.out (by kernel_rfl)) ?_
     clear hHeld HT_ HW_
     try go_wp2
     have n0_ := aW (HZ.below HX.out (below_drew bR)); have n1_ := aW (blk_below BD.out (below_drew bR))
     clear HX BD
     have HX := n0_; have BD := n1_
     clear n0_ n1_
     refine start_ (n := 16) (S := fun w' => w'.cell? ⟨g, 1, none⟩ = some (.pointer (some ⟨tr, 0, none⟩)) ∧ w'.cell? ⟨g, 2, none⟩ = some (.pointer (some ⟨de, 0, none⟩)) ∧ w'.cell? ⟨bd, 0, none⟩ = some (.int .i64 d1)) (ds := []) (bl 16 0) (by kernel_rfl) rfl rfl ⟨(blk_cell HX.out.st.blk 1).trans rfl, (blk_cell HX.out.st.blk 2).trans rfl, (blk_cell BD.out 0).trans rfl⟩ (fun hHeld => ?_); refine with_tabW gcc_Gcc_Hear.tab9 gcc_Gcc_Hear.bits9 (fun HT_ HW_ => ?_)
     generalize World.drew w14 = w15 at HX BD hHeld ⊢
     refine pq_ 0 46 (bl 16 1) HT_ ?_
     refine pq_ 1 47 (bl 16 3) HT_ ?_
     refine pq_ 2 48 (bl 16 7) HT_ ?_
     refine pq_ 3 49 (bl 16 15) HT_ ?_
     refine tq_ 4 50 (bl 16 31) HT_ HW_ hHeld ?_ (hr := by rintro w' ⟨s0_, s1_, s2_⟩; go_simp; with_reducible rfl)
     refine pq_ 5 51 (bl 16 63) HT_ ?_
     refine pq_ 6 52 (bl 16 127) HT_ ?_
     refine pq_ 7 53 (bl 16 255) HT_ ?_
     refine pq_ 8 54 (bl 16 511) HT_ ?_
     refine pq_ 9 55 (bl 16 1023) HT_ ?_
     refine tq_ 10 56 (bl 16 2047) HT_ HW_ hHeld ?_ (hr := by rintro w' ⟨s0_, s1_, s2_⟩; go_simp; with_reducible rfl)
     refine pq_ 12 58 (bl 16 6143) HT_ ?_
     refine tq_ 13 59 (bl 16 14335) HT_ HW_ hHeld ?_ (hr := by rintro w' ⟨s0_, s1_, s2_⟩; go_simp; with_reducible rfl)
     refine pq_ 14 60 (bl 16 30719) HT_ ?_
     refine one_ (i := 11) (N := some 57) (bl 16 32767) rfl rfl (one_of HT_.out (by kernel_rfl)) (by decide) (fun K hK => ?_)
     refine gD_ Tryd.func22 #[.pointer (some ⟨tr, 0, none⟩)] ?_
     with_reducible refine (trend_Trend_Count.calls tr e2 e3 e4 e5 e6 e7 e8 e9 w0 _ HX.out.st.tr).mono ?_
     rintro e w16 ⟨rfl, hb⟩
     refine ⟨_, rfl, ?_⟩
     have n0_ := aW (blk_below BD.out hb); have n1_ := aW (HZ.below HX.out hb)
     clear BD HX
     have BD := n0_; have HX := n1_
     clear n0_ n1_
     refine hK.out _ _ ⟨(blk_cell HX.out.st.blk 1).trans rfl, (blk_cell HX.out.st.blk 2).trans rfl, (blk_cell BD.out 0).trans rfl⟩ (fun hHeld => ?_)
     clear hK K
     refine no_ 57 ?_
     clear hb
     refine one_ (i := 15) (N := some 61) (bl 16 65535) rfl rfl (one_of HT_.out (by kernel_rfl)) (by decide) (fun K hK => ?_)
     refine gD_ Tryd.func21 #[.pointer (some ⟨de, 0, none⟩), .int .i64 e1, .int .i64 e9, .int .i64 d1, .int .i64 a4] ?_
     with_reducible refine (detect_Detector_Add.calls k de s1.d0 s1.d1 s1.d2 s1.d3 s1.d4 s1.d5 e1 e9 d1 a4 f1 f2 f3 f4 f5 f6 f7 w0 _ HX.out.st.de HX.out.bel A3.out).mono ?_
     rintro e w17 ⟨rfl, hi, hb, hk⟩
     refine ⟨_, rfl, ?_⟩
     have n0_ := aW (kb_at hk BD.out (bkt BD.out HX.out.st.de.1 (by decide))); have n1_ := aW (HZ.det HX.out hi hb hk)
     clear BD HX
     have BD := n0_; have HX := n1_
     clear n0_ n1_
     refine hK.out _ _ ⟨(blk_cell HX.out.st.blk 1).trans rfl, (blk_cell HX.out.st.blk 2).trans rfl, (blk_cell BD.out 0).trans rfl⟩ (fun hHeld => ?_)
     clear hK K
     refine no_ 61 ?_
     clear hi hb hk
     refine done_ (done_of HT_.out (by kernel_rfl)) ?_
     clear hHeld HT_ HW_
     try go_wp2
     go_roundg (l1.length - (i + 1))
     case measure => have := HIX.out.2; have := HLT.out; omega
     case rel => exact ⟨wrap64 (x + 1), i + 1, { s1 with g := s2, t := ⟨e2, e3, e4, e5, e6, e7, e8, e9⟩, d0 := f2, d1 := f3, d2 := f4, d3 := f5, d4 := f6, d5 := f7 }, rfl, ⟨rfl⟩, ⟨o99, by have := HLT.out; omega⟩, HR, ⟨(show HZ w0 w _ g gr tr de ai lo { s1 with g := s2, t := ⟨e2, e3, e4, e5, e6, e7, e8, e9⟩, d0 := f2, d1 := f3, d2 := f4, d3 := f5, d4 := f6, d5 := f7 } from o65)⟩⟩
  ·have hi : i = l1.length := by have := HIX.out.2; omega
   have ha := HA.out
   rw [hi, List.drop_length] at ha
   obtain rfl : s1 = sN := Option.some.inj ha
   clear ha HA
   have c0 : decide (x < (l1.length : Int)) = false := decide_eq_false (by rw [HIX.out.1, hi]; omega)
   clear hi hlt
   by_cases hl0 : l1.length = 0
   ·have HL0 := aW hl0
    have c1 : decide (0 < (l1.length : Int)) = false := decide_eq_false (by omega)
    have c1b : decide (0 < l1.length) = false := decide_eq_false (by omega)
    clear hl0
    obtain rfl : s1 = sR := by simpa [gcc_Gcc_Hear.rated, HL0.out] using A5.out
    have hc4_ : World.cell? _ ⟨g, 4, none⟩ = some (.pointer (some ⟨lo, 0, none⟩)) := (blk_cell HX.out.st.blk 4).trans rfl; have hf4_ := blk_frozen HX.out.st.blk 4
    go_wp2_with (first | (go_at_call 26; (with_reducible refine (lossy_Lossy_Update.calls lo s1.l0 s1.l1 s1.l2 s1.l3 s1.l4 a2 a4 v1 v2 v3 v4 v5 v6 w0 _ ?side1 ?side2 ?sideG A6.out).mono ?_); (case sideG => exact o38); (case side1 => exact (show HZ w0 w _ g gr tr de ai lo s1 from o65).st.lo); (case side2 => exact (show HZ w0 w _ g gr tr de ai lo s1 from o65).bel); rintro e w20 ⟨rfl, hi, hb, hk⟩; have n0_ := aW (HZ.lossy (show HZ w0 w _ g gr tr de ai lo s1 from o65) hi hb hk); clear HX; have HX := n0_; clear n0_ hi hb hk) | (go_at_call 13; (with_reducible refine (gcc_Gcc_Rate.calls g { s1 with l0 := v2, l1 := v3, l2 := v4, l3 := v5, l4 := v6 } (mn s1.a0 v2) { s1 with l0 := v2, l1 := v3, l2 := v4, l3 := v5, l4 := v6 } w0 _ ?side1 ?side2 rfl).mono ?_); (case side1 => exact ⟨gr, tr, de, ai, lo, (show HZ w0 w _ g gr tr de ai lo { s1 with l0 := v2, l1 := v3, l2 := v4, l3 := v5, l4 := v6 } from o65).st⟩); (case side2 => exact (show HZ w0 w _ g gr tr de ai lo { s1 with l0 := v2, l1 := v3, l2 := v4, l3 := v5, l4 := v6 } from o65).bel); rintro e w20r ⟨rfl, hi, hb, hk⟩; have n0_ := aW (HZ.mk (hk.2 _ _ _ _ _ (show HZ w0 w _ g gr tr de ai lo { s1 with l0 := v2, l1 := v3, l2 := v4, l3 := v5, l4 := v6 } from o65).st) hb (KS.after (show HZ w0 w _ g gr tr de ai lo { s1 with l0 := v2, l1 := v3, l2 := v4, l3 := v5, l4 := v6 } from o65) hb hk.1) (show HZ w0 w _ g gr tr de ai lo { s1 with l0 := v2, l1 := v3, l2 := v4, l3 := v5, l4 := v6 } from o65).wl); clear HX; have HX := n0_; clear n0_ hi hb hk))
    go_ret
    have hz_ := (show HZ w0 w _ g gr tr de ai lo { s1 with l0 := v2, l1 := v3, l2 := v4, l3 := v5, l4 := v6 } from o65)
    exact ⟨by first | rfl | (simp [*]; done), ⟨gr, tr, de, ai, lo, hz_.st⟩, hz_.bel, hz_.ks⟩
   ·have HL0 := aW hl0
    have c1 : decide (0 < (l1.length : Int)) = true := decide_eq_true (by omega)
    have c1b : decide (0 < l1.length) = true := decide_eq_true (by omega)
    clear hl0
    have h5 := A5.out
    unfold gcc_Gcc_Hear.rated at h5
    rw [if_neg HL0.out] at h5
    obtain ⟨t1, B1_, h5⟩ := Option.bind_eq_some_iff.mp h5
    obtain ⟨t2, B2_, h5⟩ := Option.bind_eq_some_iff.mp h5
    obtain ⟨⟨u1, u2, u3, u4, u5, u6, u7, u8, u9, u10⟩, B3_, h5⟩ := Option.bind_eq_some_iff.mp h5
    have B1 := aW B1_; have B2 := aW B2_; have B3 := aW B3_
    clear B1_ B2_ B3_
    obtain rfl := Option.some.inj h5
    clear h5 A5
    have pz : 0 ≤ wrap64 ((l1.length : Int) - 1) := by have := hr1.1.2.1; have := HL0.out; unfold wrap64; omega
    have qz : wrap64 ((l1.length : Int) - 1) < (l1.length : Int) := by have := hr1.1.2.1; have := HL0.out; unfold wrap64; omega
    obtain ⟨⟨⟨q, sz, at_⟩, ca, late, ecn⟩, hel⟩ : ∃ y, rd_T41 l1 (wrap64 ((l1.length : Int) - 1)) = y := ⟨_, rfl⟩
    have B1x := aW (show sat_Sub.f k a4 at_ = some t1 from by have hb1 := B1.out; rw [hel] at hb1; exact hb1)
    obtain ⟨ad, ead, hx0_, hx1_, hx2_, hx3_, hx4_, hx5_⟩ := at_T41 (C_ks hr1 HX.out.ks) (wrap64 ((l1.length : Int) - 1)) pz qz
    have hA1 := ead
    rw [hel] at hx0_ hx1_ hx2_ hx3_ hx4_ hx5_
    dsimp only at hx0_ hx1_ hx2_ hx3_ hx4_ hx5_
    subst ead
    replace pz := eq_true pz; replace qz := eq_true qz
    try go_wp2_with (first | ((with_reducible refine gate_callee (f := 24) rfl ?_); refine gL_ 76 Tryd.func24 #[.int .i64 a4, .int .i64 at_] ?_; (with_reducible refine (sat_Sub.calls k a4 at_ t1 _ B1x.out).mono ?_); rintro e w20 ⟨rfl, hb⟩; refine ⟨_, rfl, ?_⟩; have n0_ := aW (HZ.below (show HZ w0 w _ g gr tr de ai lo s1 from o65) hb); clear HX hb; have HX := n0_; clear n0_; have hc5_ : World.cell? w20 ⟨g, 5, none⟩ = some (.int .i64 s1.rtt) := (blk_cell HX.out.st.blk 5).trans rfl; have hf5_ := blk_frozen HX.out.st.blk 5) | ((with_reducible refine gate_callee (f := 23) rfl ?_); refine gL_ 77 Tryd.func23 #[.int .i64 t1, .int .i64 1000, .int .i64 1000000] ?_; (with_reducible refine (sat_Clamp.calls t1 1000 1000000 t2 _ B2.out).mono ?_); rintro e w' ⟨rfl, ⟨nd, rfl⟩⟩; refine ⟨_, rfl, ?_⟩; (generalize hq_ : World.drewN w20 _ = w21; have n0_ : Aside0 (HZ w0 w w21 g gr tr de ai lo s1) := ⟨by rw [← hq_]; exact HZ.below HX.out (pw_below_drewN bR _)⟩; clear HX hq_ hc5_ hf5_; have HX := n0_; clear n0_; have hc5_ : World.cell? w21 ⟨g, 5, none⟩ = some (.int .i64 s1.rtt) := (blk_cell HX.out.st.blk 5).trans rfl; have hf5_ := blk_frozen HX.out.st.blk 5)))
    clear hx0_ hx1_ hx2_ hx3_ hx4_ hx5_ pz qz hc5_ hf5_
    have n0_ : Aside0 (HZ w0 w (w21.setCell ⟨g, 5, none⟩ (.int .i64 t2)) g gr tr de ai lo { s1 with rtt := t2 }) := ⟨HZ.rt HX.out t2⟩
    clear HX; have HX := n0_; clear n0_
    generalize w21.setCell ⟨g, 5, none⟩ (.int .i64 t2) = w22 at HX ⊢
    have n0_ := aW (HZ.below HX.out (below_drew bR))
    clear HX
    have HX := n0_
    clear n0_
    refine start_ (n := 13) (S := fun w' => w'.cell? ⟨g, 3, none⟩ = some (.pointer (some ⟨ai, 0, none⟩)) ∧ w'.cell? ⟨g, 5, none⟩ = some (.int .i64 t2)) (ds := []) (bl 13 0) (by kernel_rfl) rfl rfl ⟨(blk_cell HX.out.st.blk 3).trans rfl, (blk_cell HX.out.st.blk 5).trans rfl⟩ (fun hHeld => ?_); refine with_tabW gcc_Gcc_Hear.tab14 gcc_Gcc_Hear.bits14 (fun HT_ HW_ => ?_)
    generalize World.drew w22 = w23 at HX  hHeld ⊢
    refine pq_ 0 80 (bl 13 1) HT_ ?_
    refine pq_ 1 81 (bl 13 3) HT_ ?_
    refine pq_ 2 82 (bl 13 7) HT_ ?_
    refine tq_ 3 83 (bl 13 15) HT_ HW_ hHeld ?_ (hr := by rintro w' ⟨s0_, s1_⟩; go_simp; with_reducible rfl)
    refine pq_ 4 84 (bl 13 31) HT_ ?_
    refine pq_ 6 86 (bl 13 95) HT_ ?_
    refine pq_ 7 87 (bl 13 223) HT_ ?_
    refine pq_ 8 88 (bl 13 479) HT_ ?_
    refine pq_ 9 89 (bl 13 991) HT_ ?_
    refine tq_ 10 90 (bl 13 2015) HT_ HW_ hHeld ?_ (hr := by rintro w' ⟨s0_, s1_⟩; go_simp; with_reducible rfl)
    refine pq_ 11 91 (bl 13 4063) HT_ ?_
    refine one_ (i := 5) (N := some 85) (bl 13 4095) rfl rfl (one_of HT_.out (by kernel_rfl)) (by decide) (fun K hK => ?_)
    refine gD_ Tryd.func12 #[.pointer (some ⟨g, 0, none⟩)] ?_
    with_reducible refine (gcc_Gcc_Usage.calls g { s1 with rtt := t2 } s1.d0 { s1 with rtt := t2 } w0 _ (IsS65.in_ HX.out.st) HX.out.bel rfl).mono ?_
    rintro e w24 ⟨rfl, hi, hb, hk⟩
    refine ⟨_, rfl, ?_⟩
    have n0_ := aW (HZ.mk (hk.2 _ _ _ _ _ HX.out.st) hb (KS.after HX.out hb hk.1) HX.out.wl)
    clear HX
    have HX := n0_
    clear n0_
    refine hK.out _ _ ⟨(blk_cell HX.out.st.blk 3).trans rfl, (blk_cell HX.out.st.blk 5).trans rfl⟩ (fun hHeld => ?_)
    clear hK K
    refine no_ 85 ?_
    clear hi hb hk
    refine one_ (i := 12) (N := some 92) (bl 13 8191) rfl rfl (one_of HT_.out (by kernel_rfl)) (by decide) (fun K hK => ?_)
    refine gD_ Tryd.func25 #[.pointer (some ⟨ai, 0, none⟩), .int .i64 s1.d0, .int .i64 a3, .int .i64 t2, .int .i64 a4] ?_
    with_reducible refine (aimd_Aimd_Update.calls k ai s1.a0 s1.a1 s1.a2 s1.a3 s1.a4 s1.a5 s1.a6 s1.a7 s1.a8 s1.d0 a3 t2 a4 u1 u2 u3 u4 u5 u6 u7 u8 u9 u10 w0 _ HX.out.st.ai HX.out.bel B3.out).mono ?_
    rintro e w25 ⟨rfl, hi, hb, hk⟩
    refine ⟨_, rfl, ?_⟩
    have n0_ := aW (HZ.aimd HX.out hi hb hk)
    clear HX
    have HX := n0_
    clear n0_
    refine hK.out _ _ ⟨(blk_cell HX.out.st.blk 3).trans rfl, (blk_cell HX.out.st.blk 5).trans rfl⟩ (fun hHeld => ?_)
    clear hK K
    refine no_ 92 ?_
    clear hi hb hk
    refine done_ (done_of HT_.out (by kernel_rfl)) ?_
    clear hHeld HT_ HW_
    have hc4_ : World.cell? w25 ⟨g, 4, none⟩ = some (.pointer (some ⟨lo, 0, none⟩)) := (blk_cell HX.out.st.blk 4).trans rfl; have hf4_ := blk_frozen HX.out.st.blk 4
    go_wp2_with (first | (go_at_call 26; (with_reducible refine (lossy_Lossy_Update.calls lo { s1 with rtt := t2, a0 := u2, a1 := u3, a2 := u4, a3 := u5, a4 := u6, a5 := u7, a6 := u8, a7 := u9, a8 := u10 }.l0 { s1 with rtt := t2, a0 := u2, a1 := u3, a2 := u4, a3 := u5, a4 := u6, a5 := u7, a6 := u8, a7 := u9, a8 := u10 }.l1 { s1 with rtt := t2, a0 := u2, a1 := u3, a2 := u4, a3 := u5, a4 := u6, a5 := u7, a6 := u8, a7 := u9, a8 := u10 }.l2 { s1 with rtt := t2, a0 := u2, a1 := u3, a2 := u4, a3 := u5, a4 := u6, a5 := u7, a6 := u8, a7 := u9, a8 := u10 }.l3 { s1 with rtt := t2, a0 := u2, a1 := u3, a2 := u4, a3 := u5, a4 := u6, a5 := u7, a6 := u8, a7 := u9, a8 := u10 }.l4 a2 a4 v1 v2 v3 v4 v5 v6 w0 _ ?side1 ?side2 ?sideG A6.out).mono ?_); (case sideG => exact o38); (case side1 => exact (show HZ w0 w _ g gr tr de ai lo { s1 with rtt := t2, a0 := u2, a1 := u3, a2 := u4, a3 := u5, a4 := u6, a5 := u7, a6 := u8, a7 := u9, a8 := u10 } from o65).st.lo); (case side2 => exact (show HZ w0 w _ g gr tr de ai lo { s1 with rtt := t2, a0 := u2, a1 := u3, a2 := u4, a3 := u5, a4 := u6, a5 := u7, a6 := u8, a7 := u9, a8 := u10 } from o65).bel); rintro e w26 ⟨rfl, hi, hb, hk⟩; have n0_ := aW (HZ.lossy (show HZ w0 w _ g gr tr de ai lo { s1 with rtt := t2, a0 := u2, a1 := u3, a2 := u4, a3 := u5, a4 := u6, a5 := u7, a6 := u8, a7 := u9, a8 := u10 } from o65) hi hb hk); clear HX; have HX := n0_; clear n0_ hi hb hk) | (go_at_call 13; (with_reducible refine (gcc_Gcc_Rate.calls g { { s1 with rtt := t2, a0 := u2, a1 := u3, a2 := u4, a3 := u5, a4 := u6, a5 := u7, a6 := u8, a7 := u9, a8 := u10 } with l0 := v2, l1 := v3, l2 := v4, l3 := v5, l4 := v6 } (mn { s1 with rtt := t2, a0 := u2, a1 := u3, a2 := u4, a3 := u5, a4 := u6, a5 := u7, a6 := u8, a7 := u9, a8 := u10 }.a0 v2) { { s1 with rtt := t2, a0 := u2, a1 := u3, a2 := u4, a3 := u5, a4 := u6, a5 := u7, a6 := u8, a7 := u9, a8 := u10 } with l0 := v2, l1 := v3, l2 := v4, l3 := v5, l4 := v6 } w0 _ ?side1 ?side2 rfl).mono ?_); (case side1 => exact ⟨gr, tr, de, ai, lo, (show HZ w0 w _ g gr tr de ai lo { { s1 with rtt := t2, a0 := u2, a1 := u3, a2 := u4, a3 := u5, a4 := u6, a5 := u7, a6 := u8, a7 := u9, a8 := u10 } with l0 := v2, l1 := v3, l2 := v4, l3 := v5, l4 := v6 } from o65).st⟩); (case side2 => exact (show HZ w0 w _ g gr tr de ai lo { { s1 with rtt := t2, a0 := u2, a1 := u3, a2 := u4, a3 := u5, a4 := u6, a5 := u7, a6 := u8, a7 := u9, a8 := u10 } with l0 := v2, l1 := v3, l2 := v4, l3 := v5, l4 := v6 } from o65).bel); rintro e w26r ⟨rfl, hi, hb, hk⟩; have n0_ := aW (HZ.mk (hk.2 _ _ _ _ _ (show HZ w0 w _ g gr tr de ai lo { { s1 with rtt := t2, a0 := u2, a1 := u3, a2 := u4, a3 := u5, a4 := u6, a5 := u7, a6 := u8, a7 := u9, a8 := u10 } with l0 := v2, l1 := v3, l2 := v4, l3 := v5, l4 := v6 } from o65).st) hb (KS.after (show HZ w0 w _ g gr tr de ai lo { { s1 with rtt := t2, a0 := u2, a1 := u3, a2 := u4, a3 := u5, a4 := u6, a5 := u7, a6 := u8, a7 := u9, a8 := u10 } with l0 := v2, l1 := v3, l2 := v4, l3 := v5, l4 := v6 } from o65) hb hk.1) (show HZ w0 w _ g gr tr de ai lo { { s1 with rtt := t2, a0 := u2, a1 := u3, a2 := u4, a3 := u5, a4 := u6, a5 := u7, a6 := u8, a7 := u9, a8 := u10 } with l0 := v2, l1 := v3, l2 := v4, l3 := v5, l4 := v6 } from o65).wl); clear HX; have HX := n0_; clear n0_ hi hb hk))
    go_ret
    have hz_ := (show HZ w0 w _ g gr tr de ai lo { { s1 with rtt := t2, a0 := u2, a1 := u3, a2 := u4, a3 := u5, a4 := u6, a5 := u7, a6 := u8, a7 := u9, a8 := u10 } with l0 := v2, l1 := v3, l2 := v4, l3 := v5, l4 := v6 } from o65)
    exact ⟨by first | rfl | (simp [*]; done), ⟨gr, tr, de, ai, lo, hz_.st⟩, hz_.bel, hz_.ks⟩
def gcc_Gcc_Hear.nilrecv.f (l1 : List S41) (a2 : Int) (a3 : Int) (a4 : Int) : Option Int := some 0
set_option maxHeartbeats 16000000 in
set_option maxRecDepth 100000 in
theorem gcc_Gcc_Hear.nilrecv.calls (A1 : Option Addr) (c1 : Nat) (l1 : List S41) (a2 : Int) (a3 : Int) (a4 : Int) (r : Int) (w : World) (hr1 : Kd.C k41 w A1 l1.length l1) (hc1 : l1.length ≤ c1) (h : gcc_Gcc_Hear.nilrecv.f l1 a2 a3 a4 = some r) :
  Calls Tryd.prog 10 #[.pointer none, .slice A1 l1.length c1, .int .i64 a2, .int .i64 a3, .int .i64 a4] w fun e w' => e = .returned (.int .i64 r) ∧ Below w.heap.size w w' := by
 have hpn25_eql : ∀ (a_ : Addr) (W_ : World), (Go.binOp .eql 25 (.pointer (some a_)) (.pointer none)).run Tryd.prog W_ = .ok (.bool false) W_ := fun _ _ => by kernel_rfl
 have hnn25_eql : ∀ (W_ : World), (Go.binOp .eql 25 (.pointer none) (.pointer none)).run Tryd.prog W_ = .ok (.bool true) W_ := fun _ => by kernel_rfl
 have H : (some 0 : Option Int) = some r := h
 clear h
 obtain rfl := Option.some.inj H
 clear H
 go_enter Tryd.func10, Tryd.ntmps10
 go_wp2
 go_ret
 exact ⟨o106, o94⟩
end Go.Proofs.YtphgeljglhjamaaDoor.P
end

section
namespace Go.Proofs.YtphgeljglhjamaaDoor.P
open Go.RowKit Go.Proofs.YtphgeljglhjamaaDoorW.PrintWords Go.Proofs.YtphgeljglhjamaaDoorW.PrintLast Go.Proofs.YtphgeljglhjamaaDoorW.PrintMore
attribute [local go_sem] max2_int min2_int max_two min_two max_three min_three max_four min_four
set_option linter.unusedVariables false
set_option linter.unusedSimpArgs false
def gcc_Gcc_Rtt.f (s0_0 : GccS) : Option (Int × GccS) := some (s0_0.rtt, s0_0)
set_option maxHeartbeats 8000000 in
set_option maxRecDepth 100000 in
theorem gcc_Gcc_Rtt.calls (g : Nat) (s0_0 : GccS) (r1 : Int) (r2 : GccS) (w0 w : World) (hI : IsS65 w0 w g s0_0) (hB : Below w0.heap.size w0 w) (h : gcc_Gcc_Rtt.f s0_0 = some (r1, r2)) :
  Calls Tryd.prog 11 #[.pointer (some ⟨g, 0, none⟩)] w fun e w' => e = .returned (.int .i64 r1) ∧ IsS65 w0 w' g r2 ∧ Below w0.heap.size w0 w' ∧ KS w0 w w' ∧ ∀ gr tr de ai lo, G65 w0 w g gr tr de ai lo s0_0 → G65 w0 w' g gr tr de ai lo r2 := by
 have hu65 := Tryd.underlying65
 have hu63 := Tryd.underlying63
 have hpn25_eql : ∀ (a_ : Addr) (W_ : World), (Go.binOp .eql 25 (.pointer (some a_)) (.pointer none)).run Tryd.prog W_ = .ok (.bool false) W_ := fun _ _ => by kernel_rfl
 have hnn25_eql : ∀ (W_ : World), (Go.binOp .eql 25 (.pointer none) (.pointer none)).run Tryd.prog W_ = .ok (.bool true) W_ := fun _ => by kernel_rfl
 simp only [gcc_Gcc_Rtt.f, Option.some.injEq, Prod.mk.injEq] at h
 obtain ⟨rfl, rfl⟩ := h
 obtain ⟨gr, tr, de, ai, lo, h0⟩ := hI
 have HX := aW (HZ.of h0 hB)
 have H0 := aW h0
 clear hB
 have hc5_ : w.cell? ⟨g, 5, none⟩ = some (.int .i64 s0_0.rtt) := (blk_cell h0.blk 5).trans rfl
 have hf5_ := blk_frozen h0.blk 5
 clear h0
 have hmn : (0 : Int) = 0 := rfl
 go_enter Tryd.func11, Tryd.ntmps11
 go_wp2
 go_ret
 have hz_ := (show HZ w0 w _ g gr tr de ai lo s0_0 from o65)
 exact ⟨by first | rfl | (simp only [hmn]; done) | (simp [*]; done), ⟨gr, tr, de, ai, lo, hz_.st⟩, hz_.bel, hz_.ks, fun gr' tr' de' ai' lo' h' => by obtain ⟨rfl, rfl, rfl, rfl, rfl⟩ := G65.uniq H0.out h'; exact hz_.st⟩
def gcc_Gcc_Rtt.nilrecv.f : Option Int := some 0
set_option maxHeartbeats 8000000 in
set_option maxRecDepth 100000 in
theorem gcc_Gcc_Rtt.nilrecv.calls (r : Int) (w : World) (h : gcc_Gcc_Rtt.nilrecv.f = some r) :
  Calls Tryd.prog 11 #[.pointer none] w fun e w' => e = .returned (.int .i64 r) ∧ Below w.heap.size w w' := by
 have hpn25_eql : ∀ (a_ : Addr) (W_ : World), (Go.binOp .eql 25 (.pointer (some a_)) (.pointer none)).run Tryd.prog W_ = .ok (.bool false) W_ := fun _ _ => by kernel_rfl
 have hnn25_eql : ∀ (W_ : World), (Go.binOp .eql 25 (.pointer none) (.pointer none)).run Tryd.prog W_ = .ok (.bool true) W_ := fun _ => by kernel_rfl
 have H : (some 0 : Option Int) = some r := h
 clear h
 obtain rfl := Option.some.inj H
 clear H
 go_enter Tryd.func11, Tryd.ntmps11
 go_wp2
 go_ret
 exact ⟨o106, o94⟩
def flywheellaw22_wakes.f (k : Nat)  : Option (Bool) := if (gcc_New.made.f 1000000 1000 5000000).isSome = true then ((gcc_New.made.f 1000000 1000 5000000).bind fun bt349 => (if bt349.2 = 0 then ((gcc_Gcc_Hear.f k bt349.1 ([] : List (S41)) 128 0 0).bind fun bt352 => (if bt352.1 = 750000 then ((gcc_Gcc_Usage.f bt352.2).bind fun bt354 => (if bt354.1 = 0 then ((gcc_Gcc_Rtt.f bt354.2).bind fun bt356 => (some (bt356.1 == 100000))) else (some false))) else (some false))) else (some false))) else ((gcc_New.nil.f 1000000 1000 5000000).bind fun t358 => (if t358 = 0 then ((gcc_Gcc_Hear.nilrecv.f ([] : List (S41)) 128 0 0).bind fun t359 => (if t359 = 750000 then ((gcc_Gcc_Usage.nilrecv.f).bind fun t360 => (if t360 = 0 then ((gcc_Gcc_Rtt.nilrecv.f).bind fun t361 => (some (t361 == 100000))) else (some false))) else (some false))) else (some false)))
theorem flywheellaw22_wakes.mono : ∀ k, LeO (flywheellaw22_wakes.f k ) (flywheellaw22_wakes.f (k + 1) ) := by
 intro  k
 unfold flywheellaw22_wakes.f
 repeat' first
   | (with_reducible exact gcc_Gcc_Hear.mono _ _ _ _ _ _)
   | (with_reducible exact LeO.refl _)
   | (with_reducible exact LeO.none _)
   | (with_reducible refine LeO.ite ?_ ?_)
   | (with_reducible refine LeO.bind ?_ (fun _ => ?_))
   | exact gcc_Gcc_Hear.mono _ _ _ _ _ _
   | exact LeO.none _
   | refine LeO.ite ?_ ?_
   | refine LeO.bind ?_ (fun _ => ?_)
set_option maxHeartbeats 8000000 in
set_option maxRecDepth 100000 in
theorem flywheellaw22_wakes.calls (k : Nat)  (r : Bool) (w : World) (hG : GL w) (h : flywheellaw22_wakes.f k  = some r) :
  Calls Tryd.prog 9 #[] w fun e w' => e = .returned (.bool r) ∧ Below w.heap.size w w' := by
 have HTB := aW hG
 clear hG
 have HB := aW (Below.refl w.heap.size w)
 have H : (if (gcc_New.made.f 1000000 1000 5000000).isSome = true then ((gcc_New.made.f 1000000 1000 5000000).bind fun bt349 => (if bt349.2 = 0 then ((gcc_Gcc_Hear.f k bt349.1 ([] : List (S41)) 128 0 0).bind fun bt352 => (if bt352.1 = 750000 then ((gcc_Gcc_Usage.f bt352.2).bind fun bt354 => (if bt354.1 = 0 then ((gcc_Gcc_Rtt.f bt354.2).bind fun bt356 => (some (bt356.1 == 100000))) else (some false))) else (some false))) else (some false))) else ((gcc_New.nil.f 1000000 1000 5000000).bind fun t358 => (if t358 = 0 then ((gcc_Gcc_Hear.nilrecv.f ([] : List (S41)) 128 0 0).bind fun t359 => (if t359 = 750000 then ((gcc_Gcc_Usage.nilrecv.f).bind fun t360 => (if t360 = 0 then ((gcc_Gcc_Rtt.nilrecv.f).bind fun t361 => (some (t361 == 100000))) else (some false))) else (some false))) else (some false)))) = some r := h
 clear h
 by_cases c1 : (gcc_New.made.f 1000000 1000 5000000).isSome = true
 ·rw [if_pos c1] at H
  have c1b0 : (gcc_New.made.f 1000000 1000 5000000).isSome = true := c1
  clear c1
  replace H := Option.bind_eq_some_iff.mp H
  obtain ⟨⟨t349, t351⟩, A20, H⟩ := H
  replace H : (if t351 = 0 then ((gcc_Gcc_Hear.f k t349 ([] : List (S41)) 128 0 0).bind fun bt352 => (if bt352.1 = 750000 then ((gcc_Gcc_Usage.f bt352.2).bind fun bt354 => (if bt354.1 = 0 then ((gcc_Gcc_Rtt.f bt354.2).bind fun bt356 => (some (bt356.1 == 100000))) else (some false))) else (some false))) else (some false)) = some r := H
  have A2 := aW A20
  clear A20
  by_cases c3 : t351 = 0
  ·rw [if_pos c3] at H
   have c3b0 : (t351 == 0) = true := beq_iff_eq.mpr c3
   have c3b1 : (t351 != 0) = false := bne_eq_false_iff_eq.mpr c3
   clear c3
   replace H := Option.bind_eq_some_iff.mp H
   obtain ⟨⟨t352, t353⟩, A40, H⟩ := H
   replace H : (if t352 = 750000 then ((gcc_Gcc_Usage.f t353).bind fun bt354 => (if bt354.1 = 0 then ((gcc_Gcc_Rtt.f bt354.2).bind fun bt356 => (some (bt356.1 == 100000))) else (some false))) else (some false)) = some r := H
   have A4 := aW A40
   clear A40
   by_cases c5 : t352 = 750000
   ·rw [if_pos c5] at H
    have c5b0 : (t352 == 750000) = true := beq_iff_eq.mpr c5
    have c5b1 : (t352 != 750000) = false := bne_eq_false_iff_eq.mpr c5
    clear c5
    replace H := Option.bind_eq_some_iff.mp H
    obtain ⟨⟨t354, t355⟩, A60, H⟩ := H
    replace H : (if t354 = 0 then ((gcc_Gcc_Rtt.f t355).bind fun bt356 => (some (bt356.1 == 100000))) else (some false)) = some r := H
    have A6 := aW A60
    clear A60
    by_cases c7 : t354 = 0
    ·rw [if_pos c7] at H
     have c7b0 : (t354 == 0) = true := beq_iff_eq.mpr c7
     have c7b1 : (t354 != 0) = false := bne_eq_false_iff_eq.mpr c7
     clear c7
     replace H := Option.bind_eq_some_iff.mp H
     obtain ⟨⟨t356, t357⟩, A80, H⟩ := H
     replace H : (some (t356 == 100000)) = some r := H
     have A8 := aW A80
     clear A80
     obtain rfl := Option.some.inj H
     go_enter Tryd.func9, Tryd.ntmps9
     go_wp2_with (first | ((with_reducible refine gate_callee (f := 7) rfl ?_); refine gL_ 4 Tryd.func7 #[.int .i64 1000000, .int .i64 1000, .int .i64 5000000] ?_; (with_reducible refine (gcc_New.made.calls 1000000 1000 5000000 t349 t351 _ _ bR A2.out).mono ?_); rintro e w9 ⟨g350, rfl, hi, hb, hb2⟩; refine ⟨_, rfl, ?_⟩; have n0_ := aW (below_step o77 hb2); have n1_ := aW ((IsS65.rebase hi (below_size o77))); clear HB; have HB := n0_; have HI350 := n1_; clear n0_ n1_; (try clear hb); (try clear hb2); (try clear hk); (try clear hi)) | (go_at_call 10; (refine (gcc_Gcc_Hear.calls k g350 t349 _ _ ([] : List (S41)) 128 0 0 t352 t353 w _ ?side1 ?side2 ?side3 ?side4 ?sideG A4.out).mono ?_); (case sideG => exact o38); (case side1 => exact o68); (case side2 => exact o49); (case side3 => exact R41.nil); (case side4 => exact Nat.le_refl _); rintro e w10 ⟨rfl, hi, hb, hk⟩; have n0_ := aW (hb); have n1_ := aW (hi); clear HB; clear HI350; have HB := n0_; have HI350 := n1_; clear n0_ n1_; (try clear hb); (try clear hb2); (try clear hk); (try clear hi)) | (go_at_call 12; (with_reducible refine (gcc_Gcc_Usage.calls g350 t353 t354 t355 w _ ?side1 ?side2 A6.out).mono ?_); (case side1 => exact o68); (case side2 => exact o49); rintro e w11 ⟨rfl, hi, hb, hk⟩; have n0_ := aW (hb); have n1_ := aW (hi); clear HB; clear HI350; have HB := n0_; have HI350 := n1_; clear n0_ n1_; (try clear hb); (try clear hb2); (try clear hk); (try clear hi)) | (go_at_call 11; (with_reducible refine (gcc_Gcc_Rtt.calls g350 t355 t356 t357 w _ ?side1 ?side2 A8.out).mono ?_); (case side1 => exact o68); (case side2 => exact o49); rintro e w12 ⟨rfl, hi, hb, hk⟩; have n0_ := aW (hb); have n1_ := aW (hi); clear HB; clear HI350; have HB := n0_; have HI350 := n1_; clear n0_ n1_; (try clear hb); (try clear hb2); (try clear hk); (try clear hi)))
     go_ret
     exact ⟨o96, o48⟩
    ·rw [if_neg c7] at H
     have c7b0 : (t354 == 0) = false := beq_eq_false_iff_ne.mpr c7
     have c7b1 : (t354 != 0) = true := bne_iff_ne.mpr c7
     obtain rfl := Option.some.inj H
     go_enter Tryd.func9, Tryd.ntmps9
     go_wp2_with (first | ((with_reducible refine gate_callee (f := 7) rfl ?_); refine gL_ 4 Tryd.func7 #[.int .i64 1000000, .int .i64 1000, .int .i64 5000000] ?_; (with_reducible refine (gcc_New.made.calls 1000000 1000 5000000 t349 t351 _ _ bR A2.out).mono ?_); rintro e w13 ⟨g350, rfl, hi, hb, hb2⟩; refine ⟨_, rfl, ?_⟩; have n0_ := aW (below_step o77 hb2); have n1_ := aW ((IsS65.rebase hi (below_size o77))); clear HB; have HB := n0_; have HI350 := n1_; clear n0_ n1_; (try clear hb); (try clear hb2); (try clear hk); (try clear hi)) | (go_at_call 10; (refine (gcc_Gcc_Hear.calls k g350 t349 _ _ ([] : List (S41)) 128 0 0 t352 t353 w _ ?side1 ?side2 ?side3 ?side4 ?sideG A4.out).mono ?_); (case sideG => exact o38); (case side1 => exact o68); (case side2 => exact o49); (case side3 => exact R41.nil); (case side4 => exact Nat.le_refl _); rintro e w14 ⟨rfl, hi, hb, hk⟩; have n0_ := aW (hb); have n1_ := aW (hi); clear HB; clear HI350; have HB := n0_; have HI350 := n1_; clear n0_ n1_; (try clear hb); (try clear hb2); (try clear hk); (try clear hi)) | (go_at_call 12; (with_reducible refine (gcc_Gcc_Usage.calls g350 t353 t354 t355 w _ ?side1 ?side2 A6.out).mono ?_); (case side1 => exact o68); (case side2 => exact o49); rintro e w15 ⟨rfl, hi, hb, hk⟩; have n0_ := aW (hb); have n1_ := aW (hi); clear HB; clear HI350; have HB := n0_; have HI350 := n1_; clear n0_ n1_; (try clear hb); (try clear hb2); (try clear hk); (try clear hi)))
     go_ret
     exact ⟨o96, o48⟩
   ·rw [if_neg c5] at H
    have c5b0 : (t352 == 750000) = false := beq_eq_false_iff_ne.mpr c5
    have c5b1 : (t352 != 750000) = true := bne_iff_ne.mpr c5
    obtain rfl := Option.some.inj H
    go_enter Tryd.func9, Tryd.ntmps9
    go_wp2_with (first | ((with_reducible refine gate_callee (f := 7) rfl ?_); refine gL_ 4 Tryd.func7 #[.int .i64 1000000, .int .i64 1000, .int .i64 5000000] ?_; (with_reducible refine (gcc_New.made.calls 1000000 1000 5000000 t349 t351 _ _ bR A2.out).mono ?_); rintro e w16 ⟨g350, rfl, hi, hb, hb2⟩; refine ⟨_, rfl, ?_⟩; have n0_ := aW (below_step o77 hb2); have n1_ := aW ((IsS65.rebase hi (below_size o77))); clear HB; have HB := n0_; have HI350 := n1_; clear n0_ n1_; (try clear hb); (try clear hb2); (try clear hk); (try clear hi)) | (go_at_call 10; (refine (gcc_Gcc_Hear.calls k g350 t349 _ _ ([] : List (S41)) 128 0 0 t352 t353 w _ ?side1 ?side2 ?side3 ?side4 ?sideG A4.out).mono ?_); (case sideG => exact o38); (case side1 => exact o68); (case side2 => exact o49); (case side3 => exact R41.nil); (case side4 => exact Nat.le_refl _); rintro e w17 ⟨rfl, hi, hb, hk⟩; have n0_ := aW (hb); have n1_ := aW (hi); clear HB; clear HI350; have HB := n0_; have HI350 := n1_; clear n0_ n1_; (try clear hb); (try clear hb2); (try clear hk); (try clear hi)))
    go_ret
    exact ⟨o96, o48⟩
  ·rw [if_neg c3] at H
   have c3b0 : (t351 == 0) = false := beq_eq_false_iff_ne.mpr c3
   have c3b1 : (t351 != 0) = true := bne_iff_ne.mpr c3
   obtain rfl := Option.some.inj H
   go_enter Tryd.func9, Tryd.ntmps9
   go_wp2_with (first | ((with_reducible refine gate_callee (f := 7) rfl ?_); refine gL_ 4 Tryd.func7 #[.int .i64 1000000, .int .i64 1000, .int .i64 5000000] ?_; (with_reducible refine (gcc_New.made.calls 1000000 1000 5000000 t349 t351 _ _ bR A2.out).mono ?_); rintro e w18 ⟨g350, rfl, hi, hb, hb2⟩; refine ⟨_, rfl, ?_⟩; have n0_ := aW (below_step o77 hb2); have n1_ := aW ((IsS65.rebase hi (below_size o77))); clear HB; have HB := n0_; have HI350 := n1_; clear n0_ n1_; (try clear hb); (try clear hb2); (try clear hk); (try clear hi)))
   go_ret
   exact ⟨o96, o48⟩
 ·rw [if_neg c1] at H
  have c1b0 : (gcc_New.made.f 1000000 1000 5000000).isSome = false := by simpa using c1
  clear c1
  replace H := Option.bind_eq_some_iff.mp H
  obtain ⟨t358, A190, H⟩ := H
  replace H : (if t358 = 0 then ((gcc_Gcc_Hear.nilrecv.f ([] : List (S41)) 128 0 0).bind fun t359 => (if t359 = 750000 then ((gcc_Gcc_Usage.nilrecv.f).bind fun t360 => (if t360 = 0 then ((gcc_Gcc_Rtt.nilrecv.f).bind fun t361 => (some (t361 == 100000))) else (some false))) else (some false))) else (some false)) = some r := H
  have A19 := aW A190
  clear A190
  by_cases c20 : t358 = 0
  ·rw [if_pos c20] at H
   have c20b0 : (t358 == 0) = true := beq_iff_eq.mpr c20
   have c20b1 : (t358 != 0) = false := bne_eq_false_iff_eq.mpr c20
   clear c20
   replace H := Option.bind_eq_some_iff.mp H
   obtain ⟨t359, A210, H⟩ := H
   replace H : (if t359 = 750000 then ((gcc_Gcc_Usage.nilrecv.f).bind fun t360 => (if t360 = 0 then ((gcc_Gcc_Rtt.nilrecv.f).bind fun t361 => (some (t361 == 100000))) else (some false))) else (some false)) = some r := H
   have A21 := aW A210
   clear A210
   by_cases c22 : t359 = 750000
   ·rw [if_pos c22] at H
    have c22b0 : (t359 == 750000) = true := beq_iff_eq.mpr c22
    have c22b1 : (t359 != 750000) = false := bne_eq_false_iff_eq.mpr c22
    clear c22
    replace H := Option.bind_eq_some_iff.mp H
    obtain ⟨t360, A230, H⟩ := H
    replace H : (if t360 = 0 then ((gcc_Gcc_Rtt.nilrecv.f).bind fun t361 => (some (t361 == 100000))) else (some false)) = some r := H
    have A23 := aW A230
    clear A230
    by_cases c24 : t360 = 0
    ·rw [if_pos c24] at H
     have c24b0 : (t360 == 0) = true := beq_iff_eq.mpr c24
     have c24b1 : (t360 != 0) = false := bne_eq_false_iff_eq.mpr c24
     clear c24
     replace H := Option.bind_eq_some_iff.mp H
     obtain ⟨t361, A250, H⟩ := H
     replace H : (some (t361 == 100000)) = some r := H
     have A25 := aW A250
     clear A250
     obtain rfl := Option.some.inj H
     go_enter Tryd.func9, Tryd.ntmps9
     go_wp2_with (first | ((with_reducible refine gate_callee (f := 7) rfl ?_); refine gL_ 4 Tryd.func7 #[.int .i64 1000000, .int .i64 1000, .int .i64 5000000] ?_; (with_reducible refine (gcc_New.nil.calls 1000000 1000 5000000 t358 _ A19.out).mono ?_); rintro e w26 ⟨rfl, hb⟩; refine ⟨_, rfl, ?_⟩; have n0_ := aW (below_step o77 hb); clear HB; have HB := n0_; clear n0_; (try clear hb); (try clear hb2); (try clear hk); (try clear hi)) | (go_at_call 10; (refine (gcc_Gcc_Hear.nilrecv.calls  _ _ ([] : List (S41)) 128 0 0 t359 _ ?side1 ?side2 A21.out).mono ?_); (case side1 => exact Kd.C_nil _ _); (case side2 => exact Nat.le_refl _); rintro e w27 ⟨rfl, hb⟩; have n0_ := aW (below_step o77 hb); clear HB; have HB := n0_; clear n0_; (try clear hb); (try clear hb2); (try clear hk); (try clear hi)) | (go_at_call 12; (with_reducible refine (gcc_Gcc_Usage.nilrecv.calls  t360 _ A23.out).mono ?_); rintro e w28 ⟨rfl, hb⟩; have n0_ := aW (below_step o77 hb); clear HB; have HB := n0_; clear n0_; (try clear hb); (try clear hb2); (try clear hk); (try clear hi)) | (go_at_call 11; (with_reducible refine (gcc_Gcc_Rtt.nilrecv.calls  t361 _ A25.out).mono ?_); rintro e w29 ⟨rfl, hb⟩; have n0_ := aW (below_step o77 hb); clear HB; have HB := n0_; clear n0_; (try clear hb); (try clear hb2); (try clear hk); (try clear hi)))
     go_ret
     exact ⟨o96, o78⟩
    ·rw [if_neg c24] at H
     have c24b0 : (t360 == 0) = false := beq_eq_false_iff_ne.mpr c24
     have c24b1 : (t360 != 0) = true := bne_iff_ne.mpr c24
     obtain rfl := Option.some.inj H
     go_enter Tryd.func9, Tryd.ntmps9
     go_wp2_with (first | ((with_reducible refine gate_callee (f := 7) rfl ?_); refine gL_ 4 Tryd.func7 #[.int .i64 1000000, .int .i64 1000, .int .i64 5000000] ?_; (with_reducible refine (gcc_New.nil.calls 1000000 1000 5000000 t358 _ A19.out).mono ?_); rintro e w30 ⟨rfl, hb⟩; refine ⟨_, rfl, ?_⟩; have n0_ := aW (below_step o77 hb); clear HB; have HB := n0_; clear n0_; (try clear hb); (try clear hb2); (try clear hk); (try clear hi)) | (go_at_call 10; (refine (gcc_Gcc_Hear.nilrecv.calls  _ _ ([] : List (S41)) 128 0 0 t359 _ ?side1 ?side2 A21.out).mono ?_); (case side1 => exact Kd.C_nil _ _); (case side2 => exact Nat.le_refl _); rintro e w31 ⟨rfl, hb⟩; have n0_ := aW (below_step o77 hb); clear HB; have HB := n0_; clear n0_; (try clear hb); (try clear hb2); (try clear hk); (try clear hi)) | (go_at_call 12; (with_reducible refine (gcc_Gcc_Usage.nilrecv.calls  t360 _ A23.out).mono ?_); rintro e w32 ⟨rfl, hb⟩; have n0_ := aW (below_step o77 hb); clear HB; have HB := n0_; clear n0_; (try clear hb); (try clear hb2); (try clear hk); (try clear hi)))
     go_ret
     exact ⟨o96, o78⟩
   ·rw [if_neg c22] at H
    have c22b0 : (t359 == 750000) = false := beq_eq_false_iff_ne.mpr c22
    have c22b1 : (t359 != 750000) = true := bne_iff_ne.mpr c22
    obtain rfl := Option.some.inj H
    go_enter Tryd.func9, Tryd.ntmps9
    go_wp2_with (first | ((with_reducible refine gate_callee (f := 7) rfl ?_); refine gL_ 4 Tryd.func7 #[.int .i64 1000000, .int .i64 1000, .int .i64 5000000] ?_; (with_reducible refine (gcc_New.nil.calls 1000000 1000 5000000 t358 _ A19.out).mono ?_); rintro e w33 ⟨rfl, hb⟩; refine ⟨_, rfl, ?_⟩; have n0_ := aW (below_step o77 hb); clear HB; have HB := n0_; clear n0_; (try clear hb); (try clear hb2); (try clear hk); (try clear hi)) | (go_at_call 10; (refine (gcc_Gcc_Hear.nilrecv.calls  _ _ ([] : List (S41)) 128 0 0 t359 _ ?side1 ?side2 A21.out).mono ?_); (case side1 => exact Kd.C_nil _ _); (case side2 => exact Nat.le_refl _); rintro e w34 ⟨rfl, hb⟩; have n0_ := aW (below_step o77 hb); clear HB; have HB := n0_; clear n0_; (try clear hb); (try clear hb2); (try clear hk); (try clear hi)))
    go_ret
    exact ⟨o96, o78⟩
  ·rw [if_neg c20] at H
   have c20b0 : (t358 == 0) = false := beq_eq_false_iff_ne.mpr c20
   have c20b1 : (t358 != 0) = true := bne_iff_ne.mpr c20
   obtain rfl := Option.some.inj H
   go_enter Tryd.func9, Tryd.ntmps9
   go_wp2_with (first | ((with_reducible refine gate_callee (f := 7) rfl ?_); refine gL_ 4 Tryd.func7 #[.int .i64 1000000, .int .i64 1000, .int .i64 5000000] ?_; (with_reducible refine (gcc_New.nil.calls 1000000 1000 5000000 t358 _ A19.out).mono ?_); rintro e w35 ⟨rfl, hb⟩; refine ⟨_, rfl, ?_⟩; have n0_ := aW (below_step o77 hb); clear HB; have HB := n0_; clear n0_; (try clear hb); (try clear hb2); (try clear hk); (try clear hi)))
   go_ret
   exact ⟨o96, o78⟩
end Go.Proofs.YtphgeljglhjamaaDoor.P
end

section
namespace Go.Proofs.YtphgeljglhjamaaDoor.P
open Go.RowKit Go.Proofs.YtphgeljglhjamaaDoorW.PrintWords Go.Proofs.YtphgeljglhjamaaDoorW.PrintLast Go.Proofs.YtphgeljglhjamaaDoorW.PrintMore
attribute [local go_sem] max2_int min2_int max_two min_two max_three min_three max_four min_four
set_option linter.unusedVariables false
set_option linter.unusedSimpArgs false
mutual
def flywheellaw22_GccFills.l0 : Nat → Int → Int → Int → Bool → Int → GccS → Option (Bool)
 | 0, _, _, _, _, _, _ => none
 | k + 1, x7, x8, x9, x10, x11, x405000 => if x11 < 60 then ((gcc_Gcc_Hear.f k x405000 (([(⟨(⟨0, 1200, wrap64 (x9 + x7)⟩ : S39), wrap64 ((wrap64 (x9 + x7)) + (wrap64 (x8 * x11))), false, false⟩ : S41)] : List (S41))) 0 1000000 (wrap64 ((wrap64 ((wrap64 (x9 + x7)) + (wrap64 (x8 * x11)))) + 1000))).bind fun bt410 => (if x10 = true then (flywheellaw22_GccFills.l0 k x7 x8 (wrap64 (x9 + x7)) true (wrap64 (x11 + 1)) bt410.2) else ((gcc_Gcc_Usage.f bt410.2).bind fun bt412 => (flywheellaw22_GccFills.l0 k x7 x8 (wrap64 (x9 + x7)) (bt412.1 == 1) (wrap64 (x11 + 1)) bt412.2)))) else (if x10 = true then ((flywheellaw22_wakes.f k).bind fun t414 => (some t414)) else (some false))
def flywheellaw22_GccFills.l5000 : Nat → Bool → Int → Option (Bool)
 | 0, _, _ => none
 | k + 1, x10, x11 => if x11 < 60 then (none) else (if x10 = true then ((flywheellaw22_wakes.f k).bind fun t420 => (some t420)) else (some false))
end
def flywheellaw22_GccFills.f (k : Nat) (a0 : Int) (a1 : Int) : Option (Bool) := if (gcc_New.made.f 2000000 1000 5000000).isSome = true then ((gcc_New.made.f 2000000 1000 5000000).bind fun bt403 => (if bt403.2 = 0 then (flywheellaw22_GccFills.l0 k (wrap64 (6000 + (Int.tmod (wrap64 (a0)) 20000))) (wrap64 (2000 + (Int.tmod (wrap64 (a1)) 4000))) 0 false 0 bt403.1) else (some false))) else ((gcc_New.nil.f 2000000 1000 5000000).bind fun t415 => (if t415 = 0 then (flywheellaw22_GccFills.l5000 k false 0) else (some false)))
set_option maxHeartbeats 8000000 in
set_option maxRecDepth 100000 in
theorem flywheellaw22_GccFills.calls (k : Nat) (a0 : Int) (a1 : Int) (r : Bool) (w : World) (hG : GL w) (h : flywheellaw22_GccFills.f k a0 a1 = some r) :
  Calls Tryd.prog 4 #[.int .u16 a0, .int .u16 a1] w fun e w' => e = .returned (.bool r) ∧ Below w.heap.size w w' := by
 have HTB := aW hG
 clear hG
 have hu39 := Tryd.underlying39
 have hu41 := Tryd.underlying41
 have HB := aW (Below.refl w.heap.size w)
 have H : (if (gcc_New.made.f 2000000 1000 5000000).isSome = true then ((gcc_New.made.f 2000000 1000 5000000).bind fun bt403 => (if bt403.2 = 0 then (flywheellaw22_GccFills.l0 k (wrap64 (6000 + (Int.tmod (wrap64 (a0)) 20000))) (wrap64 (2000 + (Int.tmod (wrap64 (a1)) 4000))) 0 false 0 bt403.1) else (some false))) else ((gcc_New.nil.f 2000000 1000 5000000).bind fun t415 => (if t415 = 0 then (flywheellaw22_GccFills.l5000 k false 0) else (some false)))) = some r := h
 clear h
 by_cases c3 : (gcc_New.made.f 2000000 1000 5000000).isSome = true
 ·rw [if_pos c3] at H
  have c3b0 : (gcc_New.made.f 2000000 1000 5000000).isSome = true := c3
  clear c3
  replace H := Option.bind_eq_some_iff.mp H
  obtain ⟨⟨t403, t405⟩, A40, H⟩ := H
  replace H : (if t405 = 0 then (flywheellaw22_GccFills.l0 k (wrap64 (6000 + (Int.tmod (wrap64 (a0)) 20000))) (wrap64 (2000 + (Int.tmod (wrap64 (a1)) 4000))) 0 false 0 t403) else (some false)) = some r := H
  have A4 := aW A40
  clear A40
  by_cases c5 : t405 = 0
  ·rw [if_pos c5] at H
   have c5b0 : (t405 == 0) = true := beq_iff_eq.mpr c5
   have c5b1 : (t405 != 0) = false := bne_eq_false_iff_eq.mpr c5
   clear c5
   have H' := aW H
   clear H
   go_enter Tryd.func4, Tryd.ntmps4
   go_wp2_with (first | ((with_reducible refine gate_callee (f := 7) rfl ?_); refine gL_ 14 Tryd.func7 #[.int .i64 2000000, .int .i64 1000, .int .i64 5000000] ?_; (with_reducible refine (gcc_New.made.calls 2000000 1000 5000000 t403 t405 _ _ bR A4.out).mono ?_); rintro e w6 ⟨g404, rfl, hi, hb, hb2⟩; refine ⟨_, rfl, ?_⟩; have n0_ := aW (below_step o77 hb2); have n1_ := aW ((IsS65.rebase hi (below_size o77))); clear HB; have HB := n0_; have HI404 := n1_; clear n0_ n1_; (try clear hb); (try clear hb2); (try clear hk); (try clear hi)))
   go_loopg [9, 10, 11] k (fun kq v9 v10 v11 w' => ∃ (x9_1 : Int) (x10_1 : Bool) (x11_1 : Int) (x405000_1 : GccS), v9 = .int .i64 x9_1 ∧ v10 = .bool x10_1 ∧ v11 = .int .i64 x11_1 ∧ Aside0 (flywheellaw22_GccFills.l0 kq (wrap64 (6000 + (Int.tmod (wrap64 (a0)) 20000))) (wrap64 (2000 + (Int.tmod (wrap64 (a1)) 4000))) x9_1 x10_1 x11_1 x405000_1 = some r) ∧ Aside0 (kq ≤ k) ∧ Aside0 (IsS65 w w' g404 x405000_1) ∧ Aside0 (Below w.heap.size w w'))
   case atStart => exact ⟨(0), (false), (0), (t403), o105, o105, o105, H', ⟨Nat.le_refl _⟩, ⟨by repeat (first | (with_reducible first | exact HI404.out | apply IsS65.alloc | apply IsS65.drewN | apply IsS65.drew | apply IsS65.set_0) | exact HI404.out)⟩, ⟨o47⟩⟩
   case round =>
    clear H'
    try clear p2
    try clear c3
    try clear c3b0
    try clear c4
    try clear c5
    try clear c5b0
    try clear c5b1
    try clear p6
    obtain ⟨x9_1, x10_1, x11_1, x405000_1, rfl, rfl, rfl, HA, HK1, HI404, HB⟩ := hrel
    cases gk with
    | zero => exact absurd HA.out (by simp [flywheellaw22_GccFills.l0])
    | succ k1 =>
     have H := HA.out
     clear HA
     simp only [flywheellaw22_GccFills.l0] at H
     by_cases c7 : x11_1 < 60
     ·rw [if_pos c7] at H
      have c7b0 : decide (x11_1 < 60) = true := decide_eq_true c7
      clear c7
      obtain ⟨y407, hy407⟩ : ∃ y_ : List (S41), y_ = (([(⟨(⟨0, 1200, wrap64 (x9_1 + (wrap64 (6000 + (Int.tmod (wrap64 (a0)) 20000))))⟩ : S39), wrap64 ((wrap64 (x9_1 + (wrap64 (6000 + (Int.tmod (wrap64 (a0)) 20000))))) + (wrap64 ((wrap64 (2000 + (Int.tmod (wrap64 (a1)) 4000))) * x11_1))), false, false⟩ : S41)] : List (S41))) := ⟨_, rfl⟩
      replace H : ((gcc_Gcc_Hear.f k1 x405000_1 y407 0 1000000 (wrap64 ((wrap64 ((wrap64 (x9_1 + (wrap64 (6000 + (Int.tmod (wrap64 (a0)) 20000))))) + (wrap64 ((wrap64 (2000 + (Int.tmod (wrap64 (a1)) 4000))) * x11_1)))) + 1000))).bind fun bt410 => (if x10_1 = true then (flywheellaw22_GccFills.l0 k1 (wrap64 (6000 + (Int.tmod (wrap64 (a0)) 20000))) (wrap64 (2000 + (Int.tmod (wrap64 (a1)) 4000))) (wrap64 (x9_1 + (wrap64 (6000 + (Int.tmod (wrap64 (a0)) 20000))))) true (wrap64 (x11_1 + 1)) bt410.2) else ((gcc_Gcc_Usage.f bt410.2).bind fun bt412 => (flywheellaw22_GccFills.l0 k1 (wrap64 (6000 + (Int.tmod (wrap64 (a0)) 20000))) (wrap64 (2000 + (Int.tmod (wrap64 (a1)) 4000))) (wrap64 (x9_1 + (wrap64 (6000 + (Int.tmod (wrap64 (a0)) 20000))))) (bt412.1 == 1) (wrap64 (x11_1 + 1)) bt412.2)))) = some r := by first | (rw [hy407]; with_reducible exact H) | (have H2_ := (Option.bind_some _ _).symm.trans H; rw [hy407]; with_reducible exact H2_) | (have H2_ := (Option.bind_some _ _).symm.trans H; with_reducible exact H2_) | with_reducible exact H | (rw [hy407]; exact H) | exact H
      have Ny407 := aW hy407
      clear hy407
      replace H := Option.bind_eq_some_iff.mp H
      obtain ⟨⟨t410, t411⟩, A80, H⟩ := H
      replace H : (if x10_1 = true then (flywheellaw22_GccFills.l0 k1 (wrap64 (6000 + (Int.tmod (wrap64 (a0)) 20000))) (wrap64 (2000 + (Int.tmod (wrap64 (a1)) 4000))) (wrap64 (x9_1 + (wrap64 (6000 + (Int.tmod (wrap64 (a0)) 20000))))) true (wrap64 (x11_1 + 1)) t411) else ((gcc_Gcc_Usage.f t411).bind fun bt412 => (flywheellaw22_GccFills.l0 k1 (wrap64 (6000 + (Int.tmod (wrap64 (a0)) 20000))) (wrap64 (2000 + (Int.tmod (wrap64 (a1)) 4000))) (wrap64 (x9_1 + (wrap64 (6000 + (Int.tmod (wrap64 (a0)) 20000))))) (bt412.1 == 1) (wrap64 (x11_1 + 1)) bt412.2))) = some r := H
      have A8 := aW A80
      clear A80
      by_cases c9 : x10_1 = true
      ·subst c9
       have H1 : (flywheellaw22_GccFills.l0 k1 (wrap64 (6000 + (Int.tmod (wrap64 (a0)) 20000))) (wrap64 (2000 + (Int.tmod (wrap64 (a1)) 4000))) (wrap64 (x9_1 + (wrap64 (6000 + (Int.tmod (wrap64 (a0)) 20000))))) true (wrap64 (x11_1 + 1)) t411) = some r := by rw [if_pos rfl] at H; exact H
       clear H
       have H := H1
       clear H1
       have H' := aW H
       clear H
       go_wp2_with (first | ((with_reducible refine gate_dst (N := 12) rfl ?_); refine box_event ?hg (N := 12) ?hd (cs := #[.int .i64 0, .int .i64 0, .int .i64 0, .int .i64 0, .bool false, .bool false]) (t := 41) ?hr ?_; (case hd => rfl); (case hg => rfl); (case hr => first | (go_simp; done) | (go_simp; rfl)); intro gb406 hg w10 hbox hb; have n0_ := aW (IsS65.below o64 hb); have n1_ := aW (below_step o45 hb); have n2_ := aW (hbox); have n3_ := aW ((by rw [hg]; exact (below_size o45) : w.heap.size ≤ gb406)); have n4_ := aW ((by rw [hg]; exact (below_size o45) : w.heap.size ≤ gb406)); have n5_ := aW ((by rw [hg]; exact Nat.ne_of_lt (IsS65.lt (show IsS65 w _ g404 x405000_1 from o63)) : g404 ≠ gb406)); have n6_ := aW ((by rw [hg]; exact Nat.ne_of_gt (IsS65.lt (show IsS65 w _ g404 x405000_1 from o63)) : gb406 ≠ g404)); clear HI404; clear HB; have HI404 := n0_; have HB := n1_; have BK406 := n2_; have GW406 := n3_; have GE406 := n4_; have NB404_406 := n5_; have NB406_404 := n6_; clear n0_ n1_ n2_ n3_ n4_ n5_ n6_; clear hb hbox hg; have hnb11 := NB406_404.out; have hnc11 := NB404_406.out; have hcz12_0 : w10.cell? ⟨gb406, 0, none⟩ = some (.int .i64 0) := (blk_cell BK406.out 0).trans rfl; have hcz12_1 : w10.cell? ⟨gb406, 1, none⟩ = some (.int .i64 0) := (blk_cell BK406.out 1).trans rfl; have hcz12_2 : w10.cell? ⟨gb406, 2, none⟩ = some (.int .i64 0) := (blk_cell BK406.out 2).trans rfl; have hcz12_3 : w10.cell? ⟨gb406, 3, none⟩ = some (.int .i64 0) := (blk_cell BK406.out 3).trans rfl; have hcz12_4 : w10.cell? ⟨gb406, 4, none⟩ = some (.bool false) := (blk_cell BK406.out 4).trans rfl; have hcz12_5 : w10.cell? ⟨gb406, 5, none⟩ = some (.bool false) := (blk_cell BK406.out 5).trans rfl; have hfz12_0 := blk_frozen BK406.out 0; have hfz12_1 := blk_frozen BK406.out 1; have hfz12_2 := blk_frozen BK406.out 2; have hfz12_3 := blk_frozen BK406.out 3; have hfz12_4 := blk_frozen BK406.out 4; have hfz12_5 := blk_frozen BK406.out 5) | ((with_reducible refine gate_dst (N := 44) rfl ?_); refine Kd.R_lit k41 _ 41 ?hg (N := 44) ?hd (xs := ([(⟨(⟨0, 1200, wrap64 (x9_1 + (wrap64 (6000 + (Int.tmod (wrap64 (a0)) 20000))))⟩ : S39), wrap64 ((wrap64 (x9_1 + (wrap64 (6000 + (Int.tmod (wrap64 (a0)) 20000))))) + (wrap64 ((wrap64 (2000 + (Int.tmod (wrap64 (a1)) 4000))) * x11_1))), false, false⟩ : S41)] : List (S41))) (inner := [.int .i64 0, .int .i64 1200, .int .i64 (wrap64 (x9_1 + (wrap64 (6000 + (Int.tmod (wrap64 (a0)) 20000))))), .int .i64 (wrap64 ((wrap64 (x9_1 + (wrap64 (6000 + (Int.tmod (wrap64 (a0)) 20000))))) + (wrap64 ((wrap64 (2000 + (Int.tmod (wrap64 (a1)) 4000))) * x11_1)))), .bool false, .bool false]) (ok := fun _ => True) (okp := fun _ => True) ?hr ?hp (fun _ hk => hk) trivial bR (Nat.le_refl _) (by simp) ?_; (case hd => rfl); (case hg => rfl); (case hr => first | (go_simp; done) | (go_simp; rfl)); (case hp => exact (Reps.c6 (show Kd.M k41 _ _ _ (⟨(⟨0, 1200, wrap64 (x9_1 + (wrap64 (6000 + (Int.tmod (wrap64 (a0)) 20000))))⟩ : S39), wrap64 ((wrap64 (x9_1 + (wrap64 (6000 + (Int.tmod (wrap64 (a0)) 20000))))) + (wrap64 ((wrap64 (2000 + (Int.tmod (wrap64 (a1)) 4000))) * x11_1))), false, false⟩ : S41) [.int .i64 0, .int .i64 1200, .int .i64 (wrap64 (x9_1 + (wrap64 (6000 + (Int.tmod (wrap64 (a0)) 20000))))), .int .i64 (wrap64 ((wrap64 (x9_1 + (wrap64 (6000 + (Int.tmod (wrap64 (a0)) 20000))))) + (wrap64 ((wrap64 (2000 + (Int.tmod (wrap64 (a1)) 4000))) * x11_1)))), .bool false, .bool false] from (k41_mkM _ _ _ (⟨(⟨0, 1200, wrap64 (x9_1 + (wrap64 (6000 + (Int.tmod (wrap64 (a0)) 20000))))⟩ : S39), wrap64 ((wrap64 (x9_1 + (wrap64 (6000 + (Int.tmod (wrap64 (a0)) 20000))))) + (wrap64 ((wrap64 (2000 + (Int.tmod (wrap64 (a1)) 4000))) * x11_1))), false, false⟩ : S41) )) (Reps.none _ _))); intro v408 w13 ho14 hb hg_ hnew_; clear hg_ hnew_; (first | rw [← Ny407.out] at ho14 | (simp only [Int.reduceToNat] at ho14; rw [← Ny407.out] at ho14)); have n0_ := aW (Kd.R_lower (Kd.R_newB ho14 (g := gb406) (o := .cells #[.int .i64 0, .int .i64 1200, .int .i64 (wrap64 (x9_1 + (wrap64 (6000 + (Int.tmod (wrap64 (a0)) 20000))))), .int .i64 (wrap64 ((wrap64 (x9_1 + (wrap64 (6000 + (Int.tmod (wrap64 (a0)) 20000))))) + (wrap64 ((wrap64 (2000 + (Int.tmod (wrap64 (a1)) 4000))) * x11_1)))), .bool false, .bool false] 41 (0, 0)) o0) (below_size o23)); have n1_ := aW (IsS65.below (show IsS65 w ((((((w10.setCell ⟨gb406, 0, none⟩ (.int .i64 0)).setCell ⟨gb406, 1, none⟩ (.int .i64 1200)).setCell ⟨gb406, 2, none⟩ (.int .i64 (wrap64 (x9_1 + (wrap64 (6000 + (Int.tmod (wrap64 (a0)) 20000))))))).setCell ⟨gb406, 3, none⟩ (.int .i64 (wrap64 ((wrap64 (x9_1 + (wrap64 (6000 + (Int.tmod (wrap64 (a0)) 20000))))) + (wrap64 ((wrap64 (2000 + (Int.tmod (wrap64 (a1)) 4000))) * x11_1)))))).setCell ⟨gb406, 4, none⟩ (.bool false)).setCell ⟨gb406, 5, none⟩ (.bool false)) g404 x405000_1 from o2) hb); have n2_ := aW (blk_below (g := gb406) (o := .cells #[.int .i64 0, .int .i64 1200, .int .i64 (wrap64 (x9_1 + (wrap64 (6000 + (Int.tmod (wrap64 (a0)) 20000))))), .int .i64 (wrap64 ((wrap64 (x9_1 + (wrap64 (6000 + (Int.tmod (wrap64 (a0)) 20000))))) + (wrap64 ((wrap64 (2000 + (Int.tmod (wrap64 (a1)) 4000))) * x11_1)))), .bool false, .bool false] 41 (0, 0)) o0 hb); have n3_ := aW (below_step o23 hb); clear HI404; clear BK406; clear HB; have HO409 := n0_; have HI404 := n1_; have BK406 := n2_; have HB := n3_; clear n0_ n1_ n2_ n3_; clear hb ho14; obtain ⟨Ao15, co15, eo15⟩ := Kd.R_slice HO409.out; subst eo15) | ((with_reducible refine gate_callee (f := 10) rfl ?_); refine gL_ 51 Tryd.func10 #[.pointer (some ⟨g404, 0, none⟩), .slice Ao15 y407.length co15, .int .i64 0, .int .i64 1000000, .int .i64 (wrap64 ((wrap64 ((wrap64 (x9_1 + (wrap64 (6000 + (Int.tmod (wrap64 (a0)) 20000))))) + (wrap64 ((wrap64 (2000 + (Int.tmod (wrap64 (a1)) 4000))) * x11_1)))) + 1000))] ?_; (with_reducible refine (gcc_Gcc_Hear.calls k1 g404 x405000_1 _ _ y407 0 1000000 (wrap64 ((wrap64 ((wrap64 (x9_1 + (wrap64 (6000 + (Int.tmod (wrap64 (a0)) 20000))))) + (wrap64 ((wrap64 (2000 + (Int.tmod (wrap64 (a1)) 4000))) * x11_1)))) + 1000)) t410 t411 w _ ?side1 ?side2 ?side3 ?side4 ?sideG A8.out).mono ?_); (case sideG => exact o22); (case side1 => exact o4); (case side2 => exact o24); (case side3 => exact R41.own o86); (case side4 => exact (Kd.R_reads' HO409.out).2.1); rintro e w16 ⟨rfl, hi, hb, hk⟩; refine ⟨_, rfl, ?_⟩; have n0_ := aW (KS.blk (w0 := w) (by first | exact hk | exact hk.1) (g' := gb406) (o := .cells #[.int .i64 0, .int .i64 1200, .int .i64 (wrap64 (x9_1 + (wrap64 (6000 + (Int.tmod (wrap64 (a0)) 20000))))), .int .i64 (wrap64 ((wrap64 (x9_1 + (wrap64 (6000 + (Int.tmod (wrap64 (a0)) 20000))))) + (wrap64 ((wrap64 (2000 + (Int.tmod (wrap64 (a1)) 4000))) * x11_1)))), .bool false, .bool false] 41 (0, 0)) o79 ⟨_, _, rfl, by unfold okT; decide⟩); have n1_ := aW (R41.keep (w0 := w) (by first | exact hk | exact hk.1) o86); have n2_ := aW (hb); have n3_ := aW (hi); clear BK406; clear HO409; clear HB; clear HI404; have BK406 := n0_; have HO409 := n1_; have HB := n2_; have HI404 := n3_; clear n0_ n1_ n2_ n3_; (try clear hb); (try clear hb2); (try clear hk); (try clear hi)))
       go_roundg k1
       case measure => have := HK1.out; omega
       case rel => exact ⟨(wrap64 (x9_1 + (wrap64 (6000 + (Int.tmod (wrap64 (a0)) 20000))))), (true), (wrap64 (x11_1 + 1)), (t411), o105, o105, o105, H', ⟨by have := HK1.out; omega⟩, ⟨o3⟩, ⟨by repeat (first | (with_reducible first | exact HB.out | apply below_alloc | apply pw_below_drewN | apply below_drew1 | refine below_set ?_ (IsS65.ge HI404.out) | refine below_set ?_ GE406.out) | exact HB.out)⟩⟩
      ·replace c9 := Bool.eq_false_iff.mpr c9
       subst c9
       have H1 : ((gcc_Gcc_Usage.f t411).bind fun bt412 => (flywheellaw22_GccFills.l0 k1 (wrap64 (6000 + (Int.tmod (wrap64 (a0)) 20000))) (wrap64 (2000 + (Int.tmod (wrap64 (a1)) 4000))) (wrap64 (x9_1 + (wrap64 (6000 + (Int.tmod (wrap64 (a0)) 20000))))) (bt412.1 == 1) (wrap64 (x11_1 + 1)) bt412.2)) = some r := by rw [if_neg (show ¬ (false = true) by decide)] at H; exact H
       clear H
       have H := H1
       clear H1
       replace H := Option.bind_eq_some_iff.mp H
       obtain ⟨⟨t412, t413⟩, A170, H⟩ := H
       replace H : (flywheellaw22_GccFills.l0 k1 (wrap64 (6000 + (Int.tmod (wrap64 (a0)) 20000))) (wrap64 (2000 + (Int.tmod (wrap64 (a1)) 4000))) (wrap64 (x9_1 + (wrap64 (6000 + (Int.tmod (wrap64 (a0)) 20000))))) (t412 == 1) (wrap64 (x11_1 + 1)) t413) = some r := H
       have A17 := aW A170
       clear A170
       have H' := aW H
       clear H
       go_wp2_with (first | ((with_reducible refine gate_dst (N := 12) rfl ?_); refine box_event ?hg (N := 12) ?hd (cs := #[.int .i64 0, .int .i64 0, .int .i64 0, .int .i64 0, .bool false, .bool false]) (t := 41) ?hr ?_; (case hd => rfl); (case hg => rfl); (case hr => first | (go_simp; done) | (go_simp; rfl)); intro gb406 hg w18 hbox hb; have n0_ := aW (IsS65.below o64 hb); have n1_ := aW (below_step o45 hb); have n2_ := aW (hbox); have n3_ := aW ((by rw [hg]; exact (below_size o45) : w.heap.size ≤ gb406)); have n4_ := aW ((by rw [hg]; exact (below_size o45) : w.heap.size ≤ gb406)); have n5_ := aW ((by rw [hg]; exact Nat.ne_of_lt (IsS65.lt (show IsS65 w _ g404 x405000_1 from o63)) : g404 ≠ gb406)); have n6_ := aW ((by rw [hg]; exact Nat.ne_of_gt (IsS65.lt (show IsS65 w _ g404 x405000_1 from o63)) : gb406 ≠ g404)); clear HI404; clear HB; have HI404 := n0_; have HB := n1_; have BK406 := n2_; have GW406 := n3_; have GE406 := n4_; have NB404_406 := n5_; have NB406_404 := n6_; clear n0_ n1_ n2_ n3_ n4_ n5_ n6_; clear hb hbox hg; have hnb19 := NB406_404.out; have hnc19 := NB404_406.out; have hcz20_0 : w18.cell? ⟨gb406, 0, none⟩ = some (.int .i64 0) := (blk_cell BK406.out 0).trans rfl; have hcz20_1 : w18.cell? ⟨gb406, 1, none⟩ = some (.int .i64 0) := (blk_cell BK406.out 1).trans rfl; have hcz20_2 : w18.cell? ⟨gb406, 2, none⟩ = some (.int .i64 0) := (blk_cell BK406.out 2).trans rfl; have hcz20_3 : w18.cell? ⟨gb406, 3, none⟩ = some (.int .i64 0) := (blk_cell BK406.out 3).trans rfl; have hcz20_4 : w18.cell? ⟨gb406, 4, none⟩ = some (.bool false) := (blk_cell BK406.out 4).trans rfl; have hcz20_5 : w18.cell? ⟨gb406, 5, none⟩ = some (.bool false) := (blk_cell BK406.out 5).trans rfl; have hfz20_0 := blk_frozen BK406.out 0; have hfz20_1 := blk_frozen BK406.out 1; have hfz20_2 := blk_frozen BK406.out 2; have hfz20_3 := blk_frozen BK406.out 3; have hfz20_4 := blk_frozen BK406.out 4; have hfz20_5 := blk_frozen BK406.out 5) | ((with_reducible refine gate_dst (N := 44) rfl ?_); refine Kd.R_lit k41 _ 41 ?hg (N := 44) ?hd (xs := ([(⟨(⟨0, 1200, wrap64 (x9_1 + (wrap64 (6000 + (Int.tmod (wrap64 (a0)) 20000))))⟩ : S39), wrap64 ((wrap64 (x9_1 + (wrap64 (6000 + (Int.tmod (wrap64 (a0)) 20000))))) + (wrap64 ((wrap64 (2000 + (Int.tmod (wrap64 (a1)) 4000))) * x11_1))), false, false⟩ : S41)] : List (S41))) (inner := [.int .i64 0, .int .i64 1200, .int .i64 (wrap64 (x9_1 + (wrap64 (6000 + (Int.tmod (wrap64 (a0)) 20000))))), .int .i64 (wrap64 ((wrap64 (x9_1 + (wrap64 (6000 + (Int.tmod (wrap64 (a0)) 20000))))) + (wrap64 ((wrap64 (2000 + (Int.tmod (wrap64 (a1)) 4000))) * x11_1)))), .bool false, .bool false]) (ok := fun _ => True) (okp := fun _ => True) ?hr ?hp (fun _ hk => hk) trivial bR (Nat.le_refl _) (by simp) ?_; (case hd => rfl); (case hg => rfl); (case hr => first | (go_simp; done) | (go_simp; rfl)); (case hp => exact (Reps.c6 (show Kd.M k41 _ _ _ (⟨(⟨0, 1200, wrap64 (x9_1 + (wrap64 (6000 + (Int.tmod (wrap64 (a0)) 20000))))⟩ : S39), wrap64 ((wrap64 (x9_1 + (wrap64 (6000 + (Int.tmod (wrap64 (a0)) 20000))))) + (wrap64 ((wrap64 (2000 + (Int.tmod (wrap64 (a1)) 4000))) * x11_1))), false, false⟩ : S41) [.int .i64 0, .int .i64 1200, .int .i64 (wrap64 (x9_1 + (wrap64 (6000 + (Int.tmod (wrap64 (a0)) 20000))))), .int .i64 (wrap64 ((wrap64 (x9_1 + (wrap64 (6000 + (Int.tmod (wrap64 (a0)) 20000))))) + (wrap64 ((wrap64 (2000 + (Int.tmod (wrap64 (a1)) 4000))) * x11_1)))), .bool false, .bool false] from (k41_mkM _ _ _ (⟨(⟨0, 1200, wrap64 (x9_1 + (wrap64 (6000 + (Int.tmod (wrap64 (a0)) 20000))))⟩ : S39), wrap64 ((wrap64 (x9_1 + (wrap64 (6000 + (Int.tmod (wrap64 (a0)) 20000))))) + (wrap64 ((wrap64 (2000 + (Int.tmod (wrap64 (a1)) 4000))) * x11_1))), false, false⟩ : S41) )) (Reps.none _ _))); intro v408 w21 ho22 hb hg_ hnew_; clear hg_ hnew_; (first | rw [← Ny407.out] at ho22 | (simp only [Int.reduceToNat] at ho22; rw [← Ny407.out] at ho22)); have n0_ := aW (Kd.R_lower (Kd.R_newB ho22 (g := gb406) (o := .cells #[.int .i64 0, .int .i64 1200, .int .i64 (wrap64 (x9_1 + (wrap64 (6000 + (Int.tmod (wrap64 (a0)) 20000))))), .int .i64 (wrap64 ((wrap64 (x9_1 + (wrap64 (6000 + (Int.tmod (wrap64 (a0)) 20000))))) + (wrap64 ((wrap64 (2000 + (Int.tmod (wrap64 (a1)) 4000))) * x11_1)))), .bool false, .bool false] 41 (0, 0)) o0) (below_size o23)); have n1_ := aW (IsS65.below (show IsS65 w ((((((w18.setCell ⟨gb406, 0, none⟩ (.int .i64 0)).setCell ⟨gb406, 1, none⟩ (.int .i64 1200)).setCell ⟨gb406, 2, none⟩ (.int .i64 (wrap64 (x9_1 + (wrap64 (6000 + (Int.tmod (wrap64 (a0)) 20000))))))).setCell ⟨gb406, 3, none⟩ (.int .i64 (wrap64 ((wrap64 (x9_1 + (wrap64 (6000 + (Int.tmod (wrap64 (a0)) 20000))))) + (wrap64 ((wrap64 (2000 + (Int.tmod (wrap64 (a1)) 4000))) * x11_1)))))).setCell ⟨gb406, 4, none⟩ (.bool false)).setCell ⟨gb406, 5, none⟩ (.bool false)) g404 x405000_1 from o2) hb); have n2_ := aW (blk_below (g := gb406) (o := .cells #[.int .i64 0, .int .i64 1200, .int .i64 (wrap64 (x9_1 + (wrap64 (6000 + (Int.tmod (wrap64 (a0)) 20000))))), .int .i64 (wrap64 ((wrap64 (x9_1 + (wrap64 (6000 + (Int.tmod (wrap64 (a0)) 20000))))) + (wrap64 ((wrap64 (2000 + (Int.tmod (wrap64 (a1)) 4000))) * x11_1)))), .bool false, .bool false] 41 (0, 0)) o0 hb); have n3_ := aW (below_step o23 hb); clear HI404; clear BK406; clear HB; have HO409 := n0_; have HI404 := n1_; have BK406 := n2_; have HB := n3_; clear n0_ n1_ n2_ n3_; clear hb ho22; obtain ⟨Ao23, co23, eo23⟩ := Kd.R_slice HO409.out; subst eo23) | ((with_reducible refine gate_callee (f := 10) rfl ?_); refine gL_ 51 Tryd.func10 #[.pointer (some ⟨g404, 0, none⟩), .slice Ao23 y407.length co23, .int .i64 0, .int .i64 1000000, .int .i64 (wrap64 ((wrap64 ((wrap64 (x9_1 + (wrap64 (6000 + (Int.tmod (wrap64 (a0)) 20000))))) + (wrap64 ((wrap64 (2000 + (Int.tmod (wrap64 (a1)) 4000))) * x11_1)))) + 1000))] ?_; (with_reducible refine (gcc_Gcc_Hear.calls k1 g404 x405000_1 _ _ y407 0 1000000 (wrap64 ((wrap64 ((wrap64 (x9_1 + (wrap64 (6000 + (Int.tmod (wrap64 (a0)) 20000))))) + (wrap64 ((wrap64 (2000 + (Int.tmod (wrap64 (a1)) 4000))) * x11_1)))) + 1000)) t410 t411 w _ ?side1 ?side2 ?side3 ?side4 ?sideG A8.out).mono ?_); (case sideG => exact o38); (case side1 => exact o4); (case side2 => exact o24); (case side3 => exact R41.own o86); (case side4 => exact (Kd.R_reads' HO409.out).2.1); rintro e w24 ⟨rfl, hi, hb, hk⟩; refine ⟨_, rfl, ?_⟩; have n0_ := aW (KS.blk (w0 := w) (by first | exact hk | exact hk.1) (g' := gb406) (o := .cells #[.int .i64 0, .int .i64 1200, .int .i64 (wrap64 (x9_1 + (wrap64 (6000 + (Int.tmod (wrap64 (a0)) 20000))))), .int .i64 (wrap64 ((wrap64 (x9_1 + (wrap64 (6000 + (Int.tmod (wrap64 (a0)) 20000))))) + (wrap64 ((wrap64 (2000 + (Int.tmod (wrap64 (a1)) 4000))) * x11_1)))), .bool false, .bool false] 41 (0, 0)) o79 ⟨_, _, rfl, by unfold okT; decide⟩); have n1_ := aW (R41.keep (w0 := w) (by first | exact hk | exact hk.1) o86); have n2_ := aW (hb); have n3_ := aW (hi); clear BK406; clear HO409; clear HB; clear HI404; have BK406 := n0_; have HO409 := n1_; have HB := n2_; have HI404 := n3_; clear n0_ n1_ n2_ n3_; (try clear hb); (try clear hb2); (try clear hk); (try clear hi)) | (go_at_call 12; (with_reducible refine (gcc_Gcc_Usage.calls g404 t411 t412 t413 w _ ?side1 ?side2 A17.out).mono ?_); (case side1 => exact o4); (case side2 => exact o24); rintro e w25 ⟨rfl, hi, hb, hk⟩; have n0_ := aW (KS.blk (w0 := w) (by first | exact hk | exact hk.1) (g' := gb406) (o := .cells #[.int .i64 0, .int .i64 1200, .int .i64 (wrap64 (x9_1 + (wrap64 (6000 + (Int.tmod (wrap64 (a0)) 20000))))), .int .i64 (wrap64 ((wrap64 (x9_1 + (wrap64 (6000 + (Int.tmod (wrap64 (a0)) 20000))))) + (wrap64 ((wrap64 (2000 + (Int.tmod (wrap64 (a1)) 4000))) * x11_1)))), .bool false, .bool false] 41 (0, 0)) o79 ⟨_, _, rfl, by unfold okT; decide⟩); have n1_ := aW (R41.keep (w0 := w) (by first | exact hk | exact hk.1) o86); have n2_ := aW (hb); have n3_ := aW (hi); clear BK406; clear HO409; clear HB; clear HI404; have BK406 := n0_; have HO409 := n1_; have HB := n2_; have HI404 := n3_; clear n0_ n1_ n2_ n3_; (try clear hb); (try clear hb2); (try clear hk); (try clear hi)))
       go_roundg k1
       case measure => have := HK1.out; omega
       case rel => exact ⟨(wrap64 (x9_1 + (wrap64 (6000 + (Int.tmod (wrap64 (a0)) 20000))))), ((t412 == 1)), (wrap64 (x11_1 + 1)), (t413), o105, o105, o105, H', ⟨by have := HK1.out; omega⟩, ⟨o3⟩, ⟨by repeat (first | (with_reducible first | exact HB.out | apply below_alloc | apply pw_below_drewN | apply below_drew1 | refine below_set ?_ (IsS65.ge HI404.out) | refine below_set ?_ GE406.out) | exact HB.out)⟩⟩
     ·rw [if_neg c7] at H
      have c7b0 : decide (x11_1 < 60) = false := decide_eq_false c7
      clear c7
      by_cases c26 : x10_1 = true
      ·subst c26
       have H1 : ((flywheellaw22_wakes.f k1).bind fun t414 => (some t414)) = some r := by rw [if_pos rfl] at H; exact H
       clear H
       have H := H1
       clear H1
       replace H := Option.bind_eq_some_iff.mp H
       obtain ⟨t414, A270, H⟩ := H
       replace H : (some t414) = some r := H
       have A27 := aW A270
       clear A270
       obtain rfl := Option.some.inj H
       go_wp2_with (first | (go_at_call 9; (with_reducible refine (flywheellaw22_wakes.calls k1  t414 _ ?sideG A27.out).mono ?_); (case sideG => exact o22); rintro e w28 ⟨rfl, hb⟩; have n0_ := aW (IsS65.below o64 hb); have n1_ := aW (below_step o45 hb); clear HI404; clear HB; have HI404 := n0_; have HB := n1_; clear n0_ n1_; (try clear hb); (try clear hb2); (try clear hk); (try clear hi)))
       go_ret
       exact ⟨o96, o47⟩
      ·replace c26 := Bool.eq_false_iff.mpr c26
       subst c26
       have H1 : (some false) = some r := by rw [if_neg (show ¬ (false = true) by decide)] at H; exact H
       clear H
       have H := H1
       clear H1
       obtain rfl := Option.some.inj H
       go_wp2
       go_ret
       exact ⟨o96, o47⟩
  ·rw [if_neg c5] at H
   have c5b0 : (t405 == 0) = false := beq_eq_false_iff_ne.mpr c5
   have c5b1 : (t405 != 0) = true := bne_iff_ne.mpr c5
   obtain rfl := Option.some.inj H
   go_enter Tryd.func4, Tryd.ntmps4
   go_wp2_with (first | ((with_reducible refine gate_callee (f := 7) rfl ?_); refine gL_ 14 Tryd.func7 #[.int .i64 2000000, .int .i64 1000, .int .i64 5000000] ?_; (with_reducible refine (gcc_New.made.calls 2000000 1000 5000000 t403 t405 _ _ bR A4.out).mono ?_); rintro e w29 ⟨g404, rfl, hi, hb, hb2⟩; refine ⟨_, rfl, ?_⟩; have n0_ := aW (below_step o77 hb2); have n1_ := aW ((IsS65.rebase hi (below_size o77))); clear HB; have HB := n0_; have HI404 := n1_; clear n0_ n1_; (try clear hb); (try clear hb2); (try clear hk); (try clear hi)))
   go_ret
   exact ⟨o96, o47⟩
 ·rw [if_neg c3] at H
  have c3b0 : (gcc_New.made.f 2000000 1000 5000000).isSome = false := by simpa using c3
  clear c3
  replace H := Option.bind_eq_some_iff.mp H
  obtain ⟨t415, A300, H⟩ := H
  replace H : (if t415 = 0 then (flywheellaw22_GccFills.l5000 k false 0) else (some false)) = some r := H
  have A30 := aW A300
  clear A300
  by_cases c31 : t415 = 0
  ·rw [if_pos c31] at H
   have c31b0 : (t415 == 0) = true := beq_iff_eq.mpr c31
   have c31b1 : (t415 != 0) = false := bne_eq_false_iff_eq.mpr c31
   clear c31
   have H' := aW H
   clear H
   go_enter Tryd.func4, Tryd.ntmps4
   go_wp2_with (first | ((with_reducible refine gate_callee (f := 7) rfl ?_); refine gL_ 14 Tryd.func7 #[.int .i64 2000000, .int .i64 1000, .int .i64 5000000] ?_; (with_reducible refine (gcc_New.nil.calls 2000000 1000 5000000 t415 _ A30.out).mono ?_); rintro e w32 ⟨rfl, hb⟩; refine ⟨_, rfl, ?_⟩; have n0_ := aW (below_step o77 hb); clear HB; have HB := n0_; clear n0_; (try clear hb); (try clear hb2); (try clear hk); (try clear hi)))
   go_loopg [10, 11] k (fun kq v10 v11 w' => ∃ (x10_1 : Bool) (x11_1 : Int), v10 = .bool x10_1 ∧ v11 = .int .i64 x11_1 ∧ Aside0 (flywheellaw22_GccFills.l5000 kq x10_1 x11_1 = some r) ∧ Aside0 (kq ≤ k) ∧ Aside0 (Below w.heap.size w w'))
   case atStart => exact ⟨(false), (0), o105, o105, H', ⟨Nat.le_refl _⟩, ⟨o78⟩⟩
   case round =>
    clear H'
    try clear c1
    try clear c2
    try clear p2
    try clear c3
    try clear c3b0
    try clear c4
    try clear c5
    try clear c5b0
    try clear c5b1
    try clear c6
    try clear p6
    try clear c7
    try clear c7b0
    try clear c9
    try clear c10
    try clear c11
    try clear c19
    try clear c26
    try clear c31
    try clear c31b0
    try clear c31b1
    try clear hcz12_0
    try clear hcz12_1
    try clear hcz12_2
    try clear hcz12_3
    try clear hcz12_4
    try clear hcz12_5
    try clear hcz20_0
    try clear hcz20_1
    try clear hcz20_2
    try clear hcz20_3
    try clear hcz20_4
    try clear hcz20_5
    try clear hfz12_0
    try clear hfz12_1
    try clear hfz12_2
    try clear hfz12_3
    try clear hfz12_4
    try clear hfz12_5
    try clear hfz20_0
    try clear hfz20_1
    try clear hfz20_2
    try clear hfz20_3
    try clear hfz20_4
    try clear hfz20_5
    try clear p2
    try clear p6
    obtain ⟨x10_1, x11_1, rfl, rfl, HA, HK1, HB⟩ := hrel
    cases gk with
    | zero => exact absurd HA.out (by simp [flywheellaw22_GccFills.l5000])
    | succ k1 =>
     have H := HA.out
     clear HA
     simp only [flywheellaw22_GccFills.l5000] at H
     by_cases c33 : x11_1 < 60
     ·rw [if_pos c33] at H
      have c33b0 : decide (x11_1 < 60) = true := decide_eq_true c33
      clear c33
      exact absurd H (by simp)
     ·rw [if_neg c33] at H
      have c33b0 : decide (x11_1 < 60) = false := decide_eq_false c33
      clear c33
      by_cases c34 : x10_1 = true
      ·subst c34
       have H1 : ((flywheellaw22_wakes.f k1).bind fun t420 => (some t420)) = some r := by rw [if_pos rfl] at H; exact H
       clear H
       have H := H1
       clear H1
       replace H := Option.bind_eq_some_iff.mp H
       obtain ⟨t420, A350, H⟩ := H
       replace H : (some t420) = some r := H
       have A35 := aW A350
       clear A350
       obtain rfl := Option.some.inj H
       go_wp2_with (first | (go_at_call 9; (with_reducible refine (flywheellaw22_wakes.calls k1  t420 _ ?sideG A35.out).mono ?_); (case sideG => exact o38); rintro e w36 ⟨rfl, hb⟩; have n0_ := aW (below_step o77 hb); clear HB; have HB := n0_; clear n0_; (try clear hb); (try clear hb2); (try clear hk); (try clear hi)))
       go_ret
       exact ⟨o96, o78⟩
      ·replace c34 := Bool.eq_false_iff.mpr c34
       subst c34
       have H1 : (some false) = some r := by rw [if_neg (show ¬ (false = true) by decide)] at H; exact H
       clear H
       have H := H1
       clear H1
       obtain rfl := Option.some.inj H
       go_wp2
       go_ret
       exact ⟨o96, o78⟩
  ·rw [if_neg c31] at H
   have c31b0 : (t415 == 0) = false := beq_eq_false_iff_ne.mpr c31
   have c31b1 : (t415 != 0) = true := bne_iff_ne.mpr c31
   obtain rfl := Option.some.inj H
   go_enter Tryd.func4, Tryd.ntmps4
   go_wp2_with (first | ((with_reducible refine gate_callee (f := 7) rfl ?_); refine gL_ 14 Tryd.func7 #[.int .i64 2000000, .int .i64 1000, .int .i64 5000000] ?_; (with_reducible refine (gcc_New.nil.calls 2000000 1000 5000000 t415 _ A30.out).mono ?_); rintro e w37 ⟨rfl, hb⟩; refine ⟨_, rfl, ?_⟩; have n0_ := aW (below_step o77 hb); clear HB; have HB := n0_; clear n0_; (try clear hb); (try clear hb2); (try clear hk); (try clear hi)))
   go_ret
   exact ⟨o96, o78⟩
def flywheellaw22_GccFills.Pure : Prop := ∀ (a0 : Int) (a1 : Int), (Lit.int .u16 a0).wf = true → (Lit.int .u16 a1).wf = true → ∃ k, flywheellaw22_GccFills.f k a0 a1 = some true
theorem flywheellaw22_GccFills.walk (P : flywheellaw22_GccFills.Pure) (a0 : Int) (a1 : Int) (w : World) (w0 : (Lit.int .u16 a0).wf = true) (w1 : (Lit.int .u16 a1).wf = true) (hG : GL w) :
  Calls Tryd.prog 4 #[.int .u16 a0, .int .u16 a1] w fun e w' => e = .returned (.bool true) ∧ Below w.heap.size w w' := by
 obtain ⟨k, h⟩ := P a0 a1 w0 w1
 refine (flywheellaw22_GccFills.calls k a0 a1 true w hG h).mono ?_
 rintro e w' ⟨rfl, hd⟩
 exact ⟨rfl, hd⟩
end Go.Proofs.YtphgeljglhjamaaDoor.P
end

section
namespace Go.Proofs.YtphgeljglhjamaaDoor.P
open Go.RowKit Go.Proofs.YtphgeljglhjamaaDoorW.PrintWords Go.Proofs.YtphgeljglhjamaaDoorW.PrintLast Go.Proofs.YtphgeljglhjamaaDoorW.PrintMore
attribute [local go_sem] max2_int min2_int max_two min_two max_three min_three max_four min_four
set_option linter.unusedVariables false
set_option linter.unusedSimpArgs false
end Go.Proofs.YtphgeljglhjamaaDoor.P
end

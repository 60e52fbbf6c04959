-- PUT TOGETHER by a program of this session: of the claim's texts, what is used
import Derived.Test.YtphgeljglhjamaaDoorKGccBounds6
import Derived.Test.YtphgeljglhjamaaDoorKGccBounds8
import Derived.Test.YtphgeljglhjamaaDoorKGccBounds9
import Derived.Test.YtphgeljglhjamaaDoorKGccBounds11
import Derived.Test.YtphgeljglhjamaaDoorKGccBounds12
section
namespace Go.Proofs.YtphgeljglhjamaaDoor.P
open Go.RowKit Go.Proofs.YtphgeljglhjamaaDoorW.PrintWords Go.Proofs.YtphgeljglhjamaaDoorW.PrintLast Go.Proofs.YtphgeljglhjamaaDoorW.PrintMore
attribute [local go_sem] max2_int min2_int max_two min_two max_three min_three max_four min_four
set_option linter.unusedVariables false
set_option linter.unusedSimpArgs false
def gcc_Gcc_Hear.step (k : Nat) (now : Int) (s : GccS) (x : S41) : Option GccS := (group_Grouper_Add.f k s.g x.f0.f1 x.f0.f2 x.f1 x.f2).bind fun q => if q.2.1 = true then ((trend_Trend_Add.f k s.t.w s.t.s s.t.m s.t.y s.t.x s.t.xs s.t.ys s.t.c q.1.1 q.1.2.1).bind fun t => (detect_Detector_Add.f k s.d0 s.d1 s.d2 s.d3 s.d4 s.d5 t.1 t.2.2.2.2.2.2.2.2 q.1.1 now).bind fun d => some { s with g := q.2.2, t := ⟨t.2.1, t.2.2.1, t.2.2.2.1, t.2.2.2.2.1, t.2.2.2.2.2.1, t.2.2.2.2.2.2.1, t.2.2.2.2.2.2.2.1, t.2.2.2.2.2.2.2.2⟩, d0 := d.2.1, d1 := d.2.2.1, d2 := d.2.2.2.1, d3 := d.2.2.2.2.1, d4 := d.2.2.2.2.2.1, d5 := d.2.2.2.2.2.2 }) else some { s with g := q.2.2 }
def gcc_Gcc_Hear.all (k : Nat) (now : Int) : GccS → List S41 → Option GccS
 | s, [] => some s
 | s, x :: r => (gcc_Gcc_Hear.step k now s x).bind fun s' => gcc_Gcc_Hear.all k now s' r
def gcc_Gcc_Hear.rated (k : Nat) (s : GccS) (l : List S41) (a3 a4 : Int) : Option GccS := if l.length = 0 then some s else ((sat_Sub.f k a4 (rd_T41 l (wrap64 ((l.length : Int) - 1))).f0.f2).bind fun t1 => (sat_Clamp.f t1 1000 1000000).bind fun t2 => (aimd_Aimd_Update.f k s.a0 s.a1 s.a2 s.a3 s.a4 s.a5 s.a6 s.a7 s.a8 s.d0 a3 t2 a4).bind fun u => some { s with rtt := t2, a0 := u.2.1, a1 := u.2.2.1, a2 := u.2.2.2.1, a3 := u.2.2.2.2.1, a4 := u.2.2.2.2.2.1, a5 := u.2.2.2.2.2.2.1, a6 := u.2.2.2.2.2.2.2.1, a7 := u.2.2.2.2.2.2.2.2.1, a8 := u.2.2.2.2.2.2.2.2.2 })
def gcc_Gcc_Hear.f (k : Nat) (s0_0 : GccS) (l1 : List S41) (a2 : Int) (a3 : Int) (a4 : Int) : Option (Int × GccS) := (gcc_Gcc_Hear.all k a4 s0_0 l1).bind fun s => (gcc_Gcc_Hear.rated k s l1 a3 a4).bind fun s => (lossy_Lossy_Update.f s.l0 s.l1 s.l2 s.l3 s.l4 a2 a4).bind fun v => some (mn s.a0 v.2.1, { s with l0 := v.2.1, l1 := v.2.2.1, l2 := v.2.2.2.1, l3 := v.2.2.2.2.1, l4 := v.2.2.2.2.2 })
theorem gcc_Gcc_Hear.step_mono (k : Nat) (now : Int) (s : GccS) (x : S41) : LeO (gcc_Gcc_Hear.step k now s x) (gcc_Gcc_Hear.step (k + 1) now s x) := by
 unfold gcc_Gcc_Hear.step
 exact LeO.bind (group_Grouper_Add.mono _ _ _ _ _ _) (fun _ => LeO.ite (LeO.bind (trend_Trend_Add.mono _ _ _ _ _ _ _ _ _ _ _) (fun _ => LeO.bind (detect_Detector_Add.mono _ _ _ _ _ _ _ _ _ _ _) (fun _ => LeO.refl _))) (LeO.refl _))
theorem gcc_Gcc_Hear.all_mono (k : Nat) (now : Int) : ∀ (l : List S41) (s : GccS), LeO (gcc_Gcc_Hear.all k now s l) (gcc_Gcc_Hear.all (k + 1) now s l)
 | [], _ => LeO.refl _
 | x :: r, s => LeO.bind (gcc_Gcc_Hear.step_mono k now s x) (fun s' => gcc_Gcc_Hear.all_mono k now r s')
theorem gcc_Gcc_Hear.mono : ∀ a0 a1 a2 a3 a4 k, LeO (gcc_Gcc_Hear.f k a0 a1 a2 a3 a4) (gcc_Gcc_Hear.f (k + 1) a0 a1 a2 a3 a4) := by
 intro a0 a1 a2 a3 a4 k
 unfold gcc_Gcc_Hear.f gcc_Gcc_Hear.rated
 exact LeO.bind (gcc_Gcc_Hear.all_mono _ _ _ _) (fun _ => LeO.bind (LeO.ite (LeO.refl _) (LeO.bind (sat_Sub.mono _ _ _) (fun _ => LeO.bind (LeO.refl _) (fun _ => LeO.bind (aimd_Aimd_Update.mono _ _ _ _ _ _ _ _ _ _ _ _ _ _) (fun _ => LeO.refl _))))) (fun _ => LeO.refl _))
set_option maxHeartbeats 16000000 in
set_option maxRecDepth 100000 in
theorem trend_Trend_Count.calls (g : Nat) (f0 f1 f2 f3 f4 : Int) (f5 f6 : List Int) (f7 : Int) (w0 w : World) (hI : IsS88 w0 w g f0 f1 f2 f3 f4 f5 f6 f7) :
  Calls Tryd.prog 22 #[.pointer (some ⟨g, 0, none⟩)] w fun e w' => e = .returned (.int .i64 f7) ∧ Below w.heap.size w w' := by
 have hpn57_eql : ∀ (a_ : Addr) (W_ : World), (Go.binOp .eql 57 (.pointer (some a_)) (.pointer none)).run Tryd.prog W_ = .ok (.bool false) W_ := fun _ _ => by kernel_rfl
 obtain ⟨A5, c5, A6, c6, h0, _⟩ := hI
 have hc7_ : w.cell? ⟨g, 7, none⟩ = some (.int .i64 f7) := (blk_cell h0 7).trans rfl
 have hf7_ := blk_frozen h0 7
 clear h0
 go_enter Tryd.func22, Tryd.ntmps22
 go_wp2
 go_ret
 exact ⟨o106, o93⟩
def gcc_Gcc_Hear.T6 : Bool × List (List Nat × List Nat) := (true, [([], []), ([0], [0]), ([1], [1]), ([2], [2]), ([3], [3]), ([], []), ([4, 5], [4, 5]), ([6], [6]), ([7], [7]), ([7], [7]), ([], []), ([10, 8, 6, 0, 1, 2, 3, 4, 5, 6, 7, 8, 10], [8, 10]), ([9, 11, 0, 1, 2, 3, 4, 5, 6, 7, 8, 9, 10, 11], [9])])
def gcc_Gcc_Hear.B6 : List Nat := [0, 1, 3, 7, 15, 0, 63, 127, 255, 255, 0, 1535, 4095]
theorem gcc_Gcc_Hear.tab6 : rtab .any (opsOf Tryd.f10 6) = gcc_Gcc_Hear.T6 := by kernel_rfl
theorem gcc_Gcc_Hear.bits6 : waitsOk gcc_Gcc_Hear.T6.2 gcc_Gcc_Hear.B6 = true := by kernel_rfl
def gcc_Gcc_Hear.T8 : Bool × List (List Nat × List Nat) := (true, [([], []), ([0], [0]), ([1], [1]), ([2], [2]), ([3], [3]), ([], []), ([5], [5]), ([], []), ([7], [7]), ([4, 6, 8], [4, 6, 8]), ([9, 9, 0, 1, 2, 3, 4, 5, 6, 7, 8, 9], [9])])
def gcc_Gcc_Hear.B8 : List Nat := [0, 1, 3, 7, 15, 0, 32, 0, 128, 511, 1023]
theorem gcc_Gcc_Hear.tab8 : rtab .any (opsOf Tryd.f10 8) = gcc_Gcc_Hear.T8 := by kernel_rfl
theorem gcc_Gcc_Hear.bits8 : waitsOk gcc_Gcc_Hear.T8.2 gcc_Gcc_Hear.B8 = true := by kernel_rfl
def gcc_Gcc_Hear.T9 : Bool × List (List Nat × List Nat) := (true, [([], []), ([0], [0]), ([1], [1]), ([2], [2]), ([3], [3]), ([], []), ([], []), ([6], [6]), ([7], [7]), ([8], [8]), ([9], [9]), ([10], [10]), ([], []), ([12], [12]), ([], []), ([4, 5, 11, 13, 14, 11], [4, 5, 11, 13, 14])])
def gcc_Gcc_Hear.B9 : List Nat := [0, 1, 3, 7, 15, 0, 0, 64, 192, 448, 960, 1984, 0, 4096, 0, 32767]
theorem gcc_Gcc_Hear.tab9 : rtab .any (opsOf Tryd.f10 9) = gcc_Gcc_Hear.T9 := by kernel_rfl
theorem gcc_Gcc_Hear.bits9 : waitsOk gcc_Gcc_Hear.T9.2 gcc_Gcc_Hear.B9 = true := by kernel_rfl
def gcc_Gcc_Hear.T14 : Bool × List (List Nat × List Nat) := (true, [([], []), ([0], [0]), ([1], [1]), ([2], [2]), ([], []), ([4], [4]), ([], []), ([], []), ([7], [7]), ([8], [8]), ([9], [9]), ([], []), ([3, 5, 6, 10, 11, 5], [3, 5, 6, 10, 11])])
def gcc_Gcc_Hear.B14 : List Nat := [0, 1, 3, 7, 0, 16, 0, 0, 128, 384, 896, 0, 4095]
theorem gcc_Gcc_Hear.tab14 : rtab .any (opsOf Tryd.f10 14) = gcc_Gcc_Hear.T14 := by kernel_rfl
theorem gcc_Gcc_Hear.bits14 : waitsOk gcc_Gcc_Hear.T14.2 gcc_Gcc_Hear.B14 = true := by kernel_rfl
theorem IsS65.ne_blk {w0 W : World} {g b : Nat} {s : GccS} {cs : Array Value} {t : TypeId} {fr : Nat × Nat} (h : IsS65 w0 W g s) (hb : W.heap[b]? = some (.cells cs t fr)) (ht : t ≠ 65) : g ≠ b := by
 obtain ⟨cs', h⟩ := h.blk
 rintro rfl
 rw [h] at hb
 injection hb with hb
 injection hb with _ hb _
 exact ht hb.symm
theorem KS.after {w0 w W W1 : World} {g gr tr de ai lo : Nat} {s : GccS} (h : HZ w0 w W g gr tr de ai lo s) (hb : Below w0.heap.size w0 W1) (hk : KS w0 W W1) : KS w0 w W1 :=
 h.ks.step h.bel hb hk.1 (fun k cs t ho hc => (hk.2 k (.inr ⟨cs, t, hc, ho⟩)).trans hc)
set_option maxHeartbeats 16000000 in
set_option maxRecDepth 100000 in
theorem gcc_Gcc_Hear.calls (k : Nat) (g : Nat) (s0_0 : GccS) (A1 : Option Addr) (c1 : Nat) (l1 : List S41) (a2 : Int) (a3 : Int) (a4 : Int) (r1 : Int) (r2 : GccS) (w0 w : World) (hI : IsS65 w0 w g s0_0) (hB : Below w0.heap.size w0 w) (hr1 : R41 w0 w A1 l1) (hc1 : l1.length ≤ c1) (hG : GL w0) (h : gcc_Gcc_Hear.f k s0_0 l1 a2 a3 a4 = some (r1, r2)) :
  Calls Tryd.prog 10 #[.pointer (some ⟨g, 0, none⟩), .slice A1 l1.length c1, .int .i64 a2, .int .i64 a3, .int .i64 a4] w fun e w' => e = .returned (.int .i64 r1) ∧ IsS65 w0 w' g r2 ∧ Below w0.heap.size w0 w' ∧ KS w0 w w' := by
 have HTB := aW hG
 clear hG
 have hu65 := Tryd.underlying65
 have hu63 := Tryd.underlying63
 have hu41 := Tryd.underlying41
 have hu39 := Tryd.underlying39
 have hu67 := Tryd.underlying67
 have hpn25_eql : ∀ (a_ : Addr) (W_ : World), (Go.binOp .eql 25 (.pointer (some a_)) (.pointer none)).run Tryd.prog W_ = .ok (.bool false) W_ := fun _ _ => by kernel_rfl
 unfold gcc_Gcc_Hear.f at h
 obtain ⟨sN, A4_, h⟩ := Option.bind_eq_some_iff.mp h
 obtain ⟨sR, A5_, h⟩ := Option.bind_eq_some_iff.mp h
 obtain ⟨⟨v1, v2, v3, v4, v5, v6⟩, A6_, h⟩ := Option.bind_eq_some_iff.mp h
 have A4 := aW A4_; have A5 := aW A5_; have A6 := aW A6_
 clear A4_ A5_ A6_
 simp only [Option.some.injEq, Prod.mk.injEq] at h
 obtain ⟨rfl, rfl⟩ := h
 obtain ⟨gr, tr, de, ai, lo, h0⟩ := hI
 have HX := aW (HZ.of h0 hB)
 clear hB h0
 go_enter Tryd.func10, Tryd.ntmps10
 go_wp2
 go_loopg [21] l1.length (fun kq v21 w' => ∃ (x : Int) (i : Nat) (s1 : GccS), v21 = .int .i64 x ∧ Aside0 (kq = l1.length - i) ∧ Aside0 (x = (i : Int) ∧ i ≤ l1.length) ∧ Aside0 (gcc_Gcc_Hear.all k a4 s1 (l1.drop i) = some sN) ∧ Aside0 (HZ w0 w w' g gr tr de ai lo s1))
 case atStart => exact ⟨0, 0, s0_0, o105, ⟨rfl⟩, ⟨rfl, Nat.zero_le _⟩, ⟨A4.out⟩, ⟨(show HZ w0 w _ g gr tr de ai lo s0_0 from o64)⟩⟩
 case round =>
  obtain ⟨x, i, s1, rfl, ⟨rfl⟩, HIX, HA, HX⟩ := hrel
  try clear A4
  by_cases hlt : i < l1.length
  ·have HLT := aW hlt
   have hd := List.drop_eq_getElem_cons hlt
   have hrd : rd_T41 l1 x = l1[i] := by unfold rd_T41; rw [HIX.out.1]; simp [hlt]
   obtain ⟨⟨⟨q, sz, at_⟩, ca, late, ecn⟩, hel⟩ : ∃ y, l1[i] = y := ⟨_, rfl⟩
   rw [hel] at hd hrd
   have HEL := aW hrd
   have ha := HA.out
   rw [hd] at ha
   unfold gcc_Gcc_Hear.all at ha
   obtain ⟨s', hst, HR_⟩ := Option.bind_eq_some_iff.mp ha
   have HR := aW HR_
   clear ha HA HR_ hd hrd hel
   unfold gcc_Gcc_Hear.step at hst
   obtain ⟨⟨⟨d1, d2, d3⟩, b, s2⟩, A1_, hst⟩ := Option.bind_eq_some_iff.mp hst
   have A1 := aW A1_
   clear A1_
   dsimp only at hst
   have PX : Aside0 (0 ≤ x) := ⟨by rw [HIX.out.1]; omega⟩
   have QX : Aside0 (x < (l1.length : Int)) := ⟨by rw [HIX.out.1]; omega⟩
   have c0 : decide (x < (l1.length : Int)) = true := decide_eq_true QX.out
   clear hlt
   cases b with
   | false =>
    rw [if_neg (by decide)] at hst
    obtain rfl := Option.some.inj hst
    clear hst
    obtain ⟨ad, ead, hx0_, hx1_, hx2_, hx3_, hx4_, hx5_⟩ := at_T41 (C_ks hr1 HX.out.ks) x PX.out QX.out
    have hA1 := ead
    rw [HEL.out] at hx0_ hx1_ hx2_ hx3_ hx4_ hx5_
    dsimp only at hx0_ hx1_ hx2_ hx3_ hx4_ hx5_
    subst ead
    have px := eq_true PX.out
    have qx := eq_true QX.out
    go_wp2_with (first | ((with_reducible refine gate_dst (N := 12) rfl ?_); refine box_event ?hg (N := 12) ?hd (cs := #[.int .i64 0, .int .i64 0, .int .i64 0, .int .i64 0, .bool false, .bool false]) (t := 41) ?hr ?_; (case hd => rfl); (case hg => rfl); (case hr => first | (go_simp; done) | (go_simp; rfl)); intro bx hg w7 hbox hb; have GXB := aW (show w.heap.size ≤ bx from by rw [hg]; exact HX.out.ks.1); have n0_ := aW (HZ.below (show HZ w0 w _ g gr tr de ai lo s1 from o64) hb); have BX := aW hbox; clear HX hb hbox hg; have HX := n0_; clear n0_; obtain ⟨hz0_, hzf0_, hz1_, hzf1_, hz2_, hzf2_, hz3_, hzf3_, hz4_, hzf4_, hz5_, hzf5_⟩ := bp6 BX.out))
    clear hx0_ hx1_ hx2_ hx3_ hx4_ hx5_ px qx
    have n0_ : Aside0 (HZ w0 w ((((((w7.setCell ⟨bx, 0, none⟩ (.int .i64 q)).setCell ⟨bx, 1, none⟩ (.int .i64 sz)).setCell ⟨bx, 2, none⟩ (.int .i64 at_)).setCell ⟨bx, 3, none⟩ (.int .i64 ca)).setCell ⟨bx, 4, none⟩ (.bool late)).setCell ⟨bx, 5, none⟩ (.bool ecn)) g gr tr de ai lo s1) := ⟨(HZ.setb (i := 5) (u := .bool ecn) (HZ.setb (i := 4) (u := .bool late) (HZ.setb (i := 3) (u := .int .i64 ca) (HZ.setb (i := 2) (u := .int .i64 at_) (HZ.setb (i := 1) (u := .int .i64 sz) (HZ.setb (i := 0) (u := .int .i64 q) HX.out BX.out (.inl rfl) GXB.out) (blk_put (cs := #[.int .i64 0, .int .i64 0, .int .i64 0, .int .i64 0, .bool false, .bool false]) BX.out 0 (.int .i64 q) rfl) (.inl rfl) GXB.out) (blk_put (cs := #[.int .i64 q, .int .i64 0, .int .i64 0, .int .i64 0, .bool false, .bool false]) (blk_put (cs := #[.int .i64 0, .int .i64 0, .int .i64 0, .int .i64 0, .bool false, .bool false]) BX.out 0 (.int .i64 q) rfl) 1 (.int .i64 sz) rfl) (.inl rfl) GXB.out) (blk_put (cs := #[.int .i64 q, .int .i64 sz, .int .i64 0, .int .i64 0, .bool false, .bool false]) (blk_put (cs := #[.int .i64 q, .int .i64 0, .int .i64 0, .int .i64 0, .bool false, .bool false]) (blk_put (cs := #[.int .i64 0, .int .i64 0, .int .i64 0, .int .i64 0, .bool false, .bool false]) BX.out 0 (.int .i64 q) rfl) 1 (.int .i64 sz) rfl) 2 (.int .i64 at_) rfl) (.inl rfl) GXB.out) (blk_put (cs := #[.int .i64 q, .int .i64 sz, .int .i64 at_, .int .i64 0, .bool false, .bool false]) (blk_put (cs := #[.int .i64 q, .int .i64 sz, .int .i64 0, .int .i64 0, .bool false, .bool false]) (blk_put (cs := #[.int .i64 q, .int .i64 0, .int .i64 0, .int .i64 0, .bool false, .bool false]) (blk_put (cs := #[.int .i64 0, .int .i64 0, .int .i64 0, .int .i64 0, .bool false, .bool false]) BX.out 0 (.int .i64 q) rfl) 1 (.int .i64 sz) rfl) 2 (.int .i64 at_) rfl) 3 (.int .i64 ca) rfl) (.inl rfl) GXB.out) (blk_put (cs := #[.int .i64 q, .int .i64 sz, .int .i64 at_, .int .i64 ca, .bool false, .bool false]) (blk_put (cs := #[.int .i64 q, .int .i64 sz, .int .i64 at_, .int .i64 0, .bool false, .bool false]) (blk_put (cs := #[.int .i64 q, .int .i64 sz, .int .i64 0, .int .i64 0, .bool false, .bool false]) (blk_put (cs := #[.int .i64 q, .int .i64 0, .int .i64 0, .int .i64 0, .bool false, .bool false]) (blk_put (cs := #[.int .i64 0, .int .i64 0, .int .i64 0, .int .i64 0, .bool false, .bool false]) BX.out 0 (.int .i64 q) rfl) 1 (.int .i64 sz) rfl) 2 (.int .i64 at_) rfl) 3 (.int .i64 ca) rfl) 4 (.bool late) rfl) (.inl rfl) GXB.out)⟩
    have n1_ : Aside0 (((((((w7.setCell ⟨bx, 0, none⟩ (.int .i64 q)).setCell ⟨bx, 1, none⟩ (.int .i64 sz)).setCell ⟨bx, 2, none⟩ (.int .i64 at_)).setCell ⟨bx, 3, none⟩ (.int .i64 ca)).setCell ⟨bx, 4, none⟩ (.bool late)).setCell ⟨bx, 5, none⟩ (.bool ecn)).heap[bx]? = some (.cells #[.int .i64 q, .int .i64 sz, .int .i64 at_, .int .i64 ca, .bool late, .bool ecn] 41 (0, 0))) := ⟨(blk_put (cs := #[.int .i64 q, .int .i64 sz, .int .i64 at_, .int .i64 ca, .bool late, .bool false]) (blk_put (cs := #[.int .i64 q, .int .i64 sz, .int .i64 at_, .int .i64 ca, .bool false, .bool false]) (blk_put (cs := #[.int .i64 q, .int .i64 sz, .int .i64 at_, .int .i64 0, .bool false, .bool false]) (blk_put (cs := #[.int .i64 q, .int .i64 sz, .int .i64 0, .int .i64 0, .bool false, .bool false]) (blk_put (cs := #[.int .i64 q, .int .i64 0, .int .i64 0, .int .i64 0, .bool false, .bool false]) (blk_put (cs := #[.int .i64 0, .int .i64 0, .int .i64 0, .int .i64 0, .bool false, .bool false]) BX.out 0 (.int .i64 q) rfl) 1 (.int .i64 sz) rfl) 2 (.int .i64 at_) rfl) 3 (.int .i64 ca) rfl) 4 (.bool late) rfl) 5 (.bool ecn) rfl)⟩
    clear hz0_ hzf0_ hz1_ hzf1_ hz2_ hzf2_ hz3_ hzf3_ hz4_ hzf4_ hz5_ hzf5_ HX BX
    have HX := n0_; have BX := n1_
    clear n0_ n1_
    generalize ((((((w7.setCell ⟨bx, 0, none⟩ (.int .i64 q)).setCell ⟨bx, 1, none⟩ (.int .i64 sz)).setCell ⟨bx, 2, none⟩ (.int .i64 at_)).setCell ⟨bx, 3, none⟩ (.int .i64 ca)).setCell ⟨bx, 4, none⟩ (.bool late)).setCell ⟨bx, 5, none⟩ (.bool ecn)) = w8 at HX BX ⊢
    have n0_ := aW (HZ.below HX.out (below_drew bR)); have n1_ := aW (blk_below BX.out (below_drew bR))
    clear HX BX
    have HX := n0_; have BX := n1_
    clear n0_ n1_
    refine start_ (n := 13) (S := fun w' => w'.cell? ⟨g, 0, none⟩ = some (.pointer (some ⟨gr, 0, none⟩)) ∧ w'.cell? ⟨bx, 0, none⟩ = some (.int .i64 q) ∧ w'.cell? ⟨bx, 1, none⟩ = some (.int .i64 sz) ∧ w'.cell? ⟨bx, 2, none⟩ = some (.int .i64 at_) ∧ w'.cell? ⟨bx, 3, none⟩ = some (.int .i64 ca) ∧ w'.cell? ⟨bx, 4, none⟩ = some (.bool late) ∧ w'.cell? ⟨bx, 5, none⟩ = some (.bool ecn)) (ds := [11]) (bl 13 0) (by kernel_rfl) rfl rfl ⟨(blk_cell HX.out.st.blk 0).trans rfl, (blk_cell BX.out 0).trans rfl, (blk_cell BX.out 1).trans rfl, (blk_cell BX.out 2).trans rfl, (blk_cell BX.out 3).trans rfl, (blk_cell BX.out 4).trans rfl, (blk_cell BX.out 5).trans rfl⟩ (fun hHeld => ?_); refine with_tabW gcc_Gcc_Hear.tab6 gcc_Gcc_Hear.bits6 (fun HT_ HW_ => ?_)
    generalize World.drew w8 = w9 at HX BX hHeld ⊢
    refine pq_ 0 26 (bl 13 1) HT_ ?_
    refine pq_ 1 27 (bl 13 3) HT_ ?_
    refine pq_ 2 28 (bl 13 7) HT_ ?_
    refine pq_ 3 29 (bl 13 15) HT_ ?_
    refine tq_ 4 30 (bl 13 31) HT_ HW_ hHeld ?_ (hr := by rintro w' ⟨s0_, s1_, s2_, s3_, s4_, s5_, s6_⟩; go_simp; with_reducible rfl)
    refine tq_ 5 31 (bl 13 63) HT_ HW_ hHeld ?_ (hr := by rintro w' ⟨s0_, s1_, s2_, s3_, s4_, s5_, s6_⟩; go_simp; with_reducible rfl)
    refine two_ (i := 6) (j := 10) (Ni := some 32) (Nj := some 13) (bl 13 127) (bl 13 1087) rfl rfl rfl rfl (two_of HT_.out (by kernel_rfl)) (by decide) (by decide) (fun K hK => ?_) (fun K hK => ?_)
    ·refine gD_ Tryd.func19 #[.pointer (some ⟨gr, 0, none⟩), .agg #[.int .i64 q, .int .i64 sz, .int .i64 at_, .int .i64 ca, .bool late, .bool ecn]] ?_
     with_reducible refine (group_Grouper_Add.calls k gr s1.g q sz at_ ca late ecn d1 d2 d3 false s2 w0 _ HX.out.st.gr HX.out.bel A1.out).mono ?_
     rintro e w10 ⟨rfl, hi, hb, hk⟩
     refine ⟨_, rfl, ?_⟩
     have n0_ := aW (HZ.grp_at HX.out hk BX.out (by decide)); have n1_ := aW (HZ.grp HX.out hi hb hk)
     clear BX HX
     have BX := n0_; have HX := n1_
     clear n0_ n1_
     refine hK.out _ _ ⟨(blk_cell HX.out.st.blk 0).trans rfl, (blk_cell BX.out 0).trans rfl, (blk_cell BX.out 1).trans rfl, (blk_cell BX.out 2).trans rfl, (blk_cell BX.out 3).trans rfl, (blk_cell BX.out 4).trans rfl, (blk_cell BX.out 5).trans rfl⟩ (fun hHeld => ?_)
     clear hK K
     refine no_ 32 ?_
     clear hi hb hk
     refine pq_ 7 25 (bl 13 255) HT_ ?_
     refine pq_ 8 33 (bl 13 511) HT_ ?_
     refine pq_ 9 34 (bl 13 1023) HT_ ?_
     refine one_ (i := 10) (N := some 13) (bl 13 2047) rfl rfl (one_of HT_.out (by kernel_rfl)) (by decide) (fun K hK => ?_)
     refine box_step ?hg (N := 13) ?hd (cs := #[.int .i64 0, .int .i64 0, .int .i64 0]) (t := 67) ?hr ?_; (case hd => rfl); (case hg => rfl); (case hr => first | (go_simp; done) | (go_simp; rfl))
     intro bd hgd w11 hbox hb
     have GD := aW (show w.heap.size ≤ bd from by rw [hgd]; exact HX.out.ks.1)
     have BD := aW hbox
     have n0_ := aW (HZ.below HX.out hb); have n1_ := aW (blk_below BX.out hb)
     clear HX BX
     have HX := n0_; have BX := n1_
     clear n0_ n1_
     clear hbox hb hgd
     refine hK.out _ _ ⟨(blk_cell HX.out.st.blk 0).trans rfl, (blk_cell BX.out 0).trans rfl, (blk_cell BX.out 1).trans rfl, (blk_cell BX.out 2).trans rfl, (blk_cell BX.out 3).trans rfl, (blk_cell BX.out 4).trans rfl, (blk_cell BX.out 5).trans rfl⟩ (fun hHeld => ?_)
     clear hK K
     refine no_ 13 ?_
     refine last_ (i := 11) (N := none) (bl 13 4095) rfl rfl (one_of HT_.out (by kernel_rfl)) (by decide) (fun K hK => ?_)
     obtain ⟨hs0_, hsf0_, hs1_, hsf1_, hs2_, hsf2_⟩ := bp3 BD.out
     refine skip_ (w1 := ?_) (by rfl) rfl ?_ ?_
     rotate_left
     ·go_simp
      rfl
     have n0_ : Aside0 (HZ w0 w (((w11.setCell ⟨bd, 0, none⟩ (.int .i64 d1)).setCell ⟨bd, 1, none⟩ (.int .i64 d2)).setCell ⟨bd, 2, none⟩ (.int .i64 d3)) g gr tr de ai lo { s1 with g := s2 }) := ⟨(HZ.setb (i := 2) (u := .int .i64 d3) (HZ.setb (i := 1) (u := .int .i64 d2) (HZ.setb (i := 0) (u := .int .i64 d1) HX.out BD.out (.inr rfl) GD.out) (blk_put (cs := #[.int .i64 0, .int .i64 0, .int .i64 0]) BD.out 0 (.int .i64 d1) rfl) (.inr rfl) GD.out) (blk_put (cs := #[.int .i64 d1, .int .i64 0, .int .i64 0]) (blk_put (cs := #[.int .i64 0, .int .i64 0, .int .i64 0]) BD.out 0 (.int .i64 d1) rfl) 1 (.int .i64 d2) rfl) (.inr rfl) GD.out)⟩
     have n1_ : Aside0 ((((w11.setCell ⟨bd, 0, none⟩ (.int .i64 d1)).setCell ⟨bd, 1, none⟩ (.int .i64 d2)).setCell ⟨bd, 2, none⟩ (.int .i64 d3)).heap[bd]? = some (.cells #[.int .i64 d1, .int .i64 d2, .int .i64 d3] 67 (0, 0))) := ⟨(blk_put (cs := #[.int .i64 d1, .int .i64 d2, .int .i64 0]) (blk_put (cs := #[.int .i64 d1, .int .i64 0, .int .i64 0]) (blk_put (cs := #[.int .i64 0, .int .i64 0, .int .i64 0]) BD.out 0 (.int .i64 d1) rfl) 1 (.int .i64 d2) rfl) 2 (.int .i64 d3) rfl)⟩
     clear hs0_ hsf0_ hs1_ hsf1_ hs2_ hsf2_ HX BD BX
     have HX := n0_; have BD := n1_
     clear n0_ n1_
     generalize (((w11.setCell ⟨bd, 0, none⟩ (.int .i64 d1)).setCell ⟨bd, 1, none⟩ (.int .i64 d2)).setCell ⟨bd, 2, none⟩ (.int .i64 d3)) = w12 at HX BD ⊢
     refine hK.out _ _ ?_
     clear hK K
     refine pq_ 12 14 (bl 13 8191) HT_ ?_
     refine done_ (done_of HT_.out (by kernel_rfl)) ?_
     clear hHeld HT_ HW_
     go_wp2
     go_roundg (l1.length - (i + 1))
     case measure => have := HIX.out.2; have := HLT.out; omega
     case rel => exact ⟨wrap64 (x + 1), i + 1, { s1 with g := s2 }, rfl, ⟨rfl⟩, ⟨o98, by have := HLT.out; omega⟩, HR, ⟨(show HZ w0 w _ g gr tr de ai lo { s1 with g := s2 } from o64)⟩⟩
    ·refine box_step ?hg (N := 13) ?hd (cs := #[.int .i64 0, .int .i64 0, .int .i64 0]) (t := 67) ?hr ?_; (case hd => rfl); (case hg => rfl); (case hr => first | (go_simp; done) | (go_simp; rfl))
     intro bd hgd w10 hbox hb
     have GD := aW (show w.heap.size ≤ bd from by rw [hgd]; exact HX.out.ks.1)
     have BD := aW hbox
     have n0_ := aW (HZ.below HX.out hb); have n1_ := aW (blk_below BX.out hb)
     clear HX BX
     have HX := n0_; have BX := n1_
     clear n0_ n1_
     clear hbox hb hgd
     refine hK.out _ _ ⟨(blk_cell HX.out.st.blk 0).trans rfl, (blk_cell BX.out 0).trans rfl, (blk_cell BX.out 1).trans rfl, (blk_cell BX.out 2).trans rfl, (blk_cell BX.out 3).trans rfl, (blk_cell BX.out 4).trans rfl, (blk_cell BX.out 5).trans rfl⟩ (fun hHeld => ?_)
     clear hK K
     refine no_ 13 ?_
     refine one_ (i := 6) (N := some 32) (bl 13 1151) rfl rfl (one_of HT_.out (by kernel_rfl)) (by decide) (fun K hK => ?_)
     refine gD_ Tryd.func19 #[.pointer (some ⟨gr, 0, none⟩), .agg #[.int .i64 q, .int .i64 sz, .int .i64 at_, .int .i64 ca, .bool late, .bool ecn]] ?_
     with_reducible refine (group_Grouper_Add.calls k gr s1.g q sz at_ ca late ecn d1 d2 d3 false s2 w0 _ HX.out.st.gr HX.out.bel A1.out).mono ?_
     rintro e w11 ⟨rfl, hi, hb, hk⟩
     refine ⟨_, rfl, ?_⟩
     have n0_ := aW (HZ.grp_at HX.out hk BX.out (by decide)); have n1_ := aW (HZ.grp_at HX.out hk BD.out (by decide)); have n2_ := aW (HZ.grp HX.out hi hb hk)
     clear BX BD HX
     have BX := n0_; have BD := n1_; have HX := n2_
     clear n0_ n1_ n2_
     refine hK.out _ _ ⟨(blk_cell HX.out.st.blk 0).trans rfl, (blk_cell BX.out 0).trans rfl, (blk_cell BX.out 1).trans rfl, (blk_cell BX.out 2).trans rfl, (blk_cell BX.out 3).trans rfl, (blk_cell BX.out 4).trans rfl, (blk_cell BX.out 5).trans rfl⟩ (fun hHeld => ?_)
     clear hK K
     refine no_ 32 ?_
     clear hi hb hk
     refine pq_ 7 25 (bl 13 1279) HT_ ?_
     refine pq_ 8 33 (bl 13 1535) HT_ ?_
     refine pq_ 9 34 (bl 13 2047) HT_ ?_
     refine last_ (i := 11) (N := none) (bl 13 4095) rfl rfl (one_of HT_.out (by kernel_rfl)) (by decide) (fun K hK => ?_)
     obtain ⟨hs0_, hsf0_, hs1_, hsf1_, hs2_, hsf2_⟩ := bp3 BD.out
     refine skip_ (w1 := ?_) (by rfl) rfl ?_ ?_
     rotate_left
     ·go_simp
      rfl
     have n0_ : Aside0 (HZ w0 w (((w11.setCell ⟨bd, 0, none⟩ (.int .i64 d1)).setCell ⟨bd, 1, none⟩ (.int .i64 d2)).setCell ⟨bd, 2, none⟩ (.int .i64 d3)) g gr tr de ai lo { s1 with g := s2 }) := ⟨(HZ.setb (i := 2) (u := .int .i64 d3) (HZ.setb (i := 1) (u := .int .i64 d2) (HZ.setb (i := 0) (u := .int .i64 d1) HX.out BD.out (.inr rfl) GD.out) (blk_put (cs := #[.int .i64 0, .int .i64 0, .int .i64 0]) BD.out 0 (.int .i64 d1) rfl) (.inr rfl) GD.out) (blk_put (cs := #[.int .i64 d1, .int .i64 0, .int .i64 0]) (blk_put (cs := #[.int .i64 0, .int .i64 0, .int .i64 0]) BD.out 0 (.int .i64 d1) rfl) 1 (.int .i64 d2) rfl) (.inr rfl) GD.out)⟩
     have n1_ : Aside0 ((((w11.setCell ⟨bd, 0, none⟩ (.int .i64 d1)).setCell ⟨bd, 1, none⟩ (.int .i64 d2)).setCell ⟨bd, 2, none⟩ (.int .i64 d3)).heap[bd]? = some (.cells #[.int .i64 d1, .int .i64 d2, .int .i64 d3] 67 (0, 0))) := ⟨(blk_put (cs := #[.int .i64 d1, .int .i64 d2, .int .i64 0]) (blk_put (cs := #[.int .i64 d1, .int .i64 0, .int .i64 0]) (blk_put (cs := #[.int .i64 0, .int .i64 0, .int .i64 0]) BD.out 0 (.int .i64 d1) rfl) 1 (.int .i64 d2) rfl) 2 (.int .i64 d3) rfl)⟩
     clear hs0_ hsf0_ hs1_ hsf1_ hs2_ hsf2_ HX BD BX
     have HX := n0_; have BD := n1_
     clear n0_ n1_
     generalize (((w11.setCell ⟨bd, 0, none⟩ (.int .i64 d1)).setCell ⟨bd, 1, none⟩ (.int .i64 d2)).setCell ⟨bd, 2, none⟩ (.int .i64 d3)) = w12 at HX BD ⊢
     refine hK.out _ _ ?_
     clear hK K
     refine pq_ 12 14 (bl 13 8191) HT_ ?_
     refine done_ (done_of HT_.out (by kernel_rfl)) ?_
     clear hHeld HT_ HW_
     go_wp2
     go_roundg (l1.length - (i + 1))
     case measure => have := HIX.out.2; have := HLT.out; omega
     case rel => exact ⟨wrap64 (x + 1), i + 1, { s1 with g := s2 }, rfl, ⟨rfl⟩, ⟨o98, by have := HLT.out; omega⟩, HR, ⟨(show HZ w0 w _ g gr tr de ai lo { s1 with g := s2 } from o64)⟩⟩
   | true =>
    rw [if_pos rfl] at hst
    obtain ⟨⟨e1, e2, e3, e4, e5, e6, e7, e8, e9⟩, A2_, hst⟩ := Option.bind_eq_some_iff.mp hst
    obtain ⟨⟨f1, f2, f3, f4, f5, f6, f7⟩, A3_, hst⟩ := Option.bind_eq_some_iff.mp hst
    have A2 := aW A2_; have A3 := aW A3_
    clear A2_ A3_
    dsimp only at hst A3
    obtain rfl := Option.some.inj hst
    clear hst
    obtain ⟨ad, ead, hx0_, hx1_, hx2_, hx3_, hx4_, hx5_⟩ := at_T41 (C_ks hr1 HX.out.ks) x PX.out QX.out
    have hA1 := ead
    rw [HEL.out] at hx0_ hx1_ hx2_ hx3_ hx4_ hx5_
    dsimp only at hx0_ hx1_ hx2_ hx3_ hx4_ hx5_
    subst ead
    have px := eq_true PX.out
    have qx := eq_true QX.out
    go_wp2_with (first | ((with_reducible refine gate_dst (N := 12) rfl ?_); refine box_event ?hg (N := 12) ?hd (cs := #[.int .i64 0, .int .i64 0, .int .i64 0, .int .i64 0, .bool false, .bool false]) (t := 41) ?hr ?_; (case hd => rfl); (case hg => rfl); (case hr => first | (go_simp; done) | (go_simp; rfl)); intro bx hg w7 hbox hb; have GXB := aW (show w.heap.size ≤ bx from by rw [hg]; exact HX.out.ks.1); have n0_ := aW (HZ.below (show HZ w0 w _ g gr tr de ai lo s1 from o64) hb); have BX := aW hbox; clear HX hb hbox hg; have HX := n0_; clear n0_; obtain ⟨hz0_, hzf0_, hz1_, hzf1_, hz2_, hzf2_, hz3_, hzf3_, hz4_, hzf4_, hz5_, hzf5_⟩ := bp6 BX.out))
    clear hx0_ hx1_ hx2_ hx3_ hx4_ hx5_ px qx
    have n0_ : Aside0 (HZ w0 w ((((((w7.setCell ⟨bx, 0, none⟩ (.int .i64 q)).setCell ⟨bx, 1, none⟩ (.int .i64 sz)).setCell ⟨bx, 2, none⟩ (.int .i64 at_)).setCell ⟨bx, 3, none⟩ (.int .i64 ca)).setCell ⟨bx, 4, none⟩ (.bool late)).setCell ⟨bx, 5, none⟩ (.bool ecn)) g gr tr de ai lo s1) := ⟨(HZ.setb (i := 5) (u := .bool ecn) (HZ.setb (i := 4) (u := .bool late) (HZ.setb (i := 3) (u := .int .i64 ca) (HZ.setb (i := 2) (u := .int .i64 at_) (HZ.setb (i := 1) (u := .int .i64 sz) (HZ.setb (i := 0) (u := .int .i64 q) HX.out BX.out (.inl rfl) GXB.out) (blk_put (cs := #[.int .i64 0, .int .i64 0, .int .i64 0, .int .i64 0, .bool false, .bool false]) BX.out 0 (.int .i64 q) rfl) (.inl rfl) GXB.out) (blk_put (cs := #[.int .i64 q, .int .i64 0, .int .i64 0, .int .i64 0, .bool false, .bool false]) (blk_put (cs := #[.int .i64 0, .int .i64 0, .int .i64 0, .int .i64 0, .bool false, .bool false]) BX.out 0 (.int .i64 q) rfl) 1 (.int .i64 sz) rfl) (.inl rfl) GXB.out) (blk_put (cs := #[.int .i64 q, .int .i64 sz, .int .i64 0, .int .i64 0, .bool false, .bool false]) (blk_put (cs := #[.int .i64 q, .int .i64 0, .int .i64 0, .int .i64 0, .bool false, .bool false]) (blk_put (cs := #[.int .i64 0, .int .i64 0, .int .i64 0, .int .i64 0, .bool false, .bool false]) BX.out 0 (.int .i64 q) rfl) 1 (.int .i64 sz) rfl) 2 (.int .i64 at_) rfl) (.inl rfl) GXB.out) (blk_put (cs := #[.int .i64 q, .int .i64 sz, .int .i64 at_, .int .i64 0, .bool false, .bool false]) (blk_put (cs := #[.int .i64 q, .int .i64 sz, .int .i64 0, .int .i64 0, .bool false, .bool false]) (blk_put (cs := #[.int .i64 q, .int .i64 0, .int .i64 0, .int .i64 0, .bool false, .bool false]) (blk_put (cs := #[.int .i64 0, .int .i64 0, .int .i64 0, .int .i64 0, .bool false, .bool false]) BX.out 0 (.int .i64 q) rfl) 1 (.int .i64 sz) rfl) 2 (.int .i64 at_) rfl) 3 (.int .i64 ca) rfl) (.inl rfl) GXB.out) (blk_put (cs := #[.int .i64 q, .int .i64 sz, .int .i64 at_, .int .i64 ca, .bool false, .bool false]) (blk_put (cs := #[.int .i64 q, .int .i64 sz, .int .i64 at_, .int .i64 0, .bool false, .bool false]) (blk_put (cs := #[.int .i64 q, .int .i64 sz, .int .i64 0, .int .i64 0, .bool false, .bool false]) (blk_put (cs := #[.int .i64 q, .int .i64 0, .int .i64 0, .int .i64 0, .bool false, .bool false]) (blk_put (cs := #[.int .i64 0, .int .i64 0, .int .i64 0, .int .i64 0, .bool false, .bool false]) BX.out 0 (.int .i64 q) rfl) 1 (.int .i64 sz) rfl) 2 (.int .i64 at_) rfl) 3 (.int .i64 ca) rfl) 4 (.bool late) rfl) (.inl rfl) GXB.out)⟩
    have n1_ : Aside0 (((((((w7.setCell ⟨bx, 0, none⟩ (.int .i64 q)).setCell ⟨bx, 1, none⟩ (.int .i64 sz)).setCell ⟨bx, 2, none⟩ (.int .i64 at_)).setCell ⟨bx, 3, none⟩ (.int .i64 ca)).setCell ⟨bx, 4, none⟩ (.bool late)).setCell ⟨bx, 5, none⟩ (.bool ecn)).heap[bx]? = some (.cells #[.int .i64 q, .int .i64 sz, .int .i64 at_, .int .i64 ca, .bool late, .bool ecn] 41 (0, 0))) := ⟨(blk_put (cs := #[.int .i64 q, .int .i64 sz, .int .i64 at_, .int .i64 ca, .bool late, .bool false]) (blk_put (cs := #[.int .i64 q, .int .i64 sz, .int .i64 at_, .int .i64 ca, .bool false, .bool false]) (blk_put (cs := #[.int .i64 q, .int .i64 sz, .int .i64 at_, .int .i64 0, .bool false, .bool false]) (blk_put (cs := #[.int .i64 q, .int .i64 sz, .int .i64 0, .int .i64 0, .bool false, .bool false]) (blk_put (cs := #[.int .i64 q, .int .i64 0, .int .i64 0, .int .i64 0, .bool false, .bool false]) (blk_put (cs := #[.int .i64 0, .int .i64 0, .int .i64 0, .int .i64 0, .bool false, .bool false]) BX.out 0 (.int .i64 q) rfl) 1 (.int .i64 sz) rfl) 2 (.int .i64 at_) rfl) 3 (.int .i64 ca) rfl) 4 (.bool late) rfl) 5 (.bool ecn) rfl)⟩
    clear hz0_ hzf0_ hz1_ hzf1_ hz2_ hzf2_ hz3_ hzf3_ hz4_ hzf4_ hz5_ hzf5_ HX BX
    have HX := n0_; have BX := n1_
    clear n0_ n1_
    generalize ((((((w7.setCell ⟨bx, 0, none⟩ (.int .i64 q)).setCell ⟨bx, 1, none⟩ (.int .i64 sz)).setCell ⟨bx, 2, none⟩ (.int .i64 at_)).setCell ⟨bx, 3, none⟩ (.int .i64 ca)).setCell ⟨bx, 4, none⟩ (.bool late)).setCell ⟨bx, 5, none⟩ (.bool ecn)) = w8 at HX BX ⊢
    have n0_ := aW (HZ.below HX.out (below_drew bR)); have n1_ := aW (blk_below BX.out (below_drew bR))
    clear HX BX
    have HX := n0_; have BX := n1_
    clear n0_ n1_
    refine start_ (n := 13) (S := fun w' => w'.cell? ⟨g, 0, none⟩ = some (.pointer (some ⟨gr, 0, none⟩)) ∧ w'.cell? ⟨bx, 0, none⟩ = some (.int .i64 q) ∧ w'.cell? ⟨bx, 1, none⟩ = some (.int .i64 sz) ∧ w'.cell? ⟨bx, 2, none⟩ = some (.int .i64 at_) ∧ w'.cell? ⟨bx, 3, none⟩ = some (.int .i64 ca) ∧ w'.cell? ⟨bx, 4, none⟩ = some (.bool late) ∧ w'.cell? ⟨bx, 5, none⟩ = some (.bool ecn)) (ds := [11]) (bl 13 0) (by kernel_rfl) rfl rfl ⟨(blk_cell HX.out.st.blk 0).trans rfl, (blk_cell BX.out 0).trans rfl, (blk_cell BX.out 1).trans rfl, (blk_cell BX.out 2).trans rfl, (blk_cell BX.out 3).trans rfl, (blk_cell BX.out 4).trans rfl, (blk_cell BX.out 5).trans rfl⟩ (fun hHeld => ?_); refine with_tabW gcc_Gcc_Hear.tab6 gcc_Gcc_Hear.bits6 (fun HT_ HW_ => ?_)
    generalize World.drew w8 = w9 at HX BX hHeld ⊢
    refine pq_ 0 26 (bl 13 1) HT_ ?_
    refine pq_ 1 27 (bl 13 3) HT_ ?_
    refine pq_ 2 28 (bl 13 7) HT_ ?_
    refine pq_ 3 29 (bl 13 15) HT_ ?_
    refine tq_ 4 30 (bl 13 31) HT_ HW_ hHeld ?_ (hr := by rintro w' ⟨s0_, s1_, s2_, s3_, s4_, s5_, s6_⟩; go_simp; with_reducible rfl)
    refine tq_ 5 31 (bl 13 63) HT_ HW_ hHeld ?_ (hr := by rintro w' ⟨s0_, s1_, s2_, s3_, s4_, s5_, s6_⟩; go_simp; with_reducible rfl)
    refine two_ (i := 6) (j := 10) (Ni := some 32) (Nj := some 13) (bl 13 127) (bl 13 1087) rfl rfl rfl rfl (two_of HT_.out (by kernel_rfl)) (by decide) (by decide) (fun K hK => ?_) (fun K hK => ?_)
    ·refine gD_ Tryd.func19 #[.pointer (some ⟨gr, 0, none⟩), .agg #[.int .i64 q, .int .i64 sz, .int .i64 at_, .int .i64 ca, .bool late, .bool ecn]] ?_
     with_reducible refine (group_Grouper_Add.calls k gr s1.g q sz at_ ca late ecn d1 d2 d3 true s2 w0 _ HX.out.st.gr HX.out.bel A1.out).mono ?_
     rintro e w10 ⟨rfl, hi, hb, hk⟩
     refine ⟨_, rfl, ?_⟩
     have n0_ := aW (HZ.grp_at HX.out hk BX.out (by decide)); have n1_ := aW (HZ.grp HX.out hi hb hk)
     clear BX HX
     have BX := n0_; have HX := n1_
     clear n0_ n1_
     refine hK.out _ _ ⟨(blk_cell HX.out.st.blk 0).trans rfl, (blk_cell BX.out 0).trans rfl, (blk_cell BX.out 1).trans rfl, (blk_cell BX.out 2).trans rfl, (blk_cell BX.out 3).trans rfl, (blk_cell BX.out 4).trans rfl, (blk_cell BX.out 5).trans rfl⟩ (fun hHeld => ?_)
     clear hK K
     refine no_ 32 ?_
     clear hi hb hk
     refine pq_ 7 25 (bl 13 255) HT_ ?_
     refine pq_ 8 33 (bl 13 511) HT_ ?_
     refine pq_ 9 34 (bl 13 1023) HT_ ?_
     refine one_ (i := 10) (N := some 13) (bl 13 2047) rfl rfl (one_of HT_.out (by kernel_rfl)) (by decide) (fun K hK => ?_)
     refine box_step ?hg (N := 13) ?hd (cs := #[.int .i64 0, .int .i64 0, .int .i64 0]) (t := 67) ?hr ?_; (case hd => rfl); (case hg => rfl); (case hr => first | (go_simp; done) | (go_simp; rfl))
     intro bd hgd w11 hbox hb
     have GD := aW (show w.heap.size ≤ bd from by rw [hgd]; exact HX.out.ks.1)
     have BD := aW hbox
     have n0_ := aW (HZ.below HX.out hb); have n1_ := aW (blk_below BX.out hb)
     clear HX BX
     have HX := n0_; have BX := n1_
     clear n0_ n1_
     clear hbox hb hgd
     refine hK.out _ _ ⟨(blk_cell HX.out.st.blk 0).trans rfl, (blk_cell BX.out 0).trans rfl, (blk_cell BX.out 1).trans rfl, (blk_cell BX.out 2).trans rfl, (blk_cell BX.out 3).trans rfl, (blk_cell BX.out 4).trans rfl, (blk_cell BX.out 5).trans rfl⟩ (fun hHeld => ?_)
     clear hK K
     refine no_ 13 ?_
     refine last_ (i := 11) (N := none) (bl 13 4095) rfl rfl (one_of HT_.out (by kernel_rfl)) (by decide) (fun K hK => ?_)
     obtain ⟨hs0_, hsf0_, hs1_, hsf1_, hs2_, hsf2_⟩ := bp3 BD.out
     refine skip_ (w1 := ?_) (by rfl) rfl ?_ ?_
     rotate_left
     ·go_simp
      rfl
     have n0_ : Aside0 (HZ w0 w (((w11.setCell ⟨bd, 0, none⟩ (.int .i64 d1)).setCell ⟨bd, 1, none⟩ (.int .i64 d2)).setCell ⟨bd, 2, none⟩ (.int .i64 d3)) g gr tr de ai lo { s1 with g := s2 }) := ⟨(HZ.setb (i := 2) (u := .int .i64 d3) (HZ.setb (i := 1) (u := .int .i64 d2) (HZ.setb (i := 0) (u := .int .i64 d1) HX.out BD.out (.inr rfl) GD.out) (blk_put (cs := #[.int .i64 0, .int .i64 0, .int .i64 0]) BD.out 0 (.int .i64 d1) rfl) (.inr rfl) GD.out) (blk_put (cs := #[.int .i64 d1, .int .i64 0, .int .i64 0]) (blk_put (cs := #[.int .i64 0, .int .i64 0, .int .i64 0]) BD.out 0 (.int .i64 d1) rfl) 1 (.int .i64 d2) rfl) (.inr rfl) GD.out)⟩
     have n1_ : Aside0 ((((w11.setCell ⟨bd, 0, none⟩ (.int .i64 d1)).setCell ⟨bd, 1, none⟩ (.int .i64 d2)).setCell ⟨bd, 2, none⟩ (.int .i64 d3)).heap[bd]? = some (.cells #[.int .i64 d1, .int .i64 d2, .int .i64 d3] 67 (0, 0))) := ⟨(blk_put (cs := #[.int .i64 d1, .int .i64 d2, .int .i64 0]) (blk_put (cs := #[.int .i64 d1, .int .i64 0, .int .i64 0]) (blk_put (cs := #[.int .i64 0, .int .i64 0, .int .i64 0]) BD.out 0 (.int .i64 d1) rfl) 1 (.int .i64 d2) rfl) 2 (.int .i64 d3) rfl)⟩
     clear hs0_ hsf0_ hs1_ hsf1_ hs2_ hsf2_ HX BD BX
     have HX := n0_; have BD := n1_
     clear n0_ n1_
     generalize (((w11.setCell ⟨bd, 0, none⟩ (.int .i64 d1)).setCell ⟨bd, 1, none⟩ (.int .i64 d2)).setCell ⟨bd, 2, none⟩ (.int .i64 d3)) = w12 at HX BD ⊢
     refine hK.out _ _ ?_
     clear hK K
     refine pq_ 12 14 (bl 13 8191) HT_ ?_
     refine done_ (done_of HT_.out (by kernel_rfl)) ?_
     clear hHeld HT_ HW_
     try go_wp2
     have n0_ := aW (HZ.below HX.out (below_drew bR)); have n1_ := aW (blk_below BD.out (below_drew bR))
     clear HX BD
     have HX := n0_; have BD := n1_
     clear n0_ n1_
     refine start_ (n := 11) (S := fun w' => w'.cell? ⟨g, 1, none⟩ = some (.pointer (some ⟨tr, 0, none⟩)) ∧ w'.cell? ⟨bd, 0, none⟩ = some (.int .i64 d1) ∧ w'.cell? ⟨bd, 1, none⟩ = some (.int .i64 d2)) (ds := []) (bl 11 0) (by kernel_rfl) rfl rfl ⟨(blk_cell HX.out.st.blk 1).trans rfl, (blk_cell BD.out 0).trans rfl, (blk_cell BD.out 1).trans rfl⟩ (fun hHeld => ?_); refine with_tabW gcc_Gcc_Hear.tab8 gcc_Gcc_Hear.bits8 (fun HT_ HW_ => ?_)
     generalize World.drew w12 = w13 at HX BD hHeld ⊢
     refine pq_ 0 36 (bl 11 1) HT_ ?_
     refine pq_ 1 37 (bl 11 3) HT_ ?_
     refine pq_ 2 38 (bl 11 7) HT_ ?_
     refine pq_ 3 39 (bl 11 15) HT_ ?_
     refine tq_ 4 40 (bl 11 31) HT_ HW_ hHeld ?_ (hr := by rintro w' ⟨s0_, s1_, s2_⟩; go_simp; with_reducible rfl)
     refine pq_ 5 41 (bl 11 63) HT_ ?_
     refine tq_ 6 42 (bl 11 127) HT_ HW_ hHeld ?_ (hr := by rintro w' ⟨s0_, s1_, s2_⟩; go_simp; with_reducible rfl)
     refine pq_ 7 43 (bl 11 255) HT_ ?_
     refine tq_ 8 44 (bl 11 511) HT_ HW_ hHeld ?_ (hr := by rintro w' ⟨s0_, s1_, s2_⟩; go_simp; with_reducible rfl)
     refine one_ (i := 9) (N := some 45) (bl 11 1023) rfl rfl (one_of HT_.out (by kernel_rfl)) (by decide) (fun K hK => ?_)
     refine gD_ Tryd.func20 #[.pointer (some ⟨tr, 0, none⟩), .int .i64 d1, .int .i64 d2] ?_
     with_reducible refine (trend_Trend_Add.callsP (PT w13) k tr s1.t.w s1.t.s s1.t.m s1.t.y s1.t.x s1.t.xs s1.t.ys s1.t.c d1 d2 e1 e2 e3 e4 e5 e6 e7 e8 e9 w0 _ (fun j hj => pt_fresh hj) (IsS88.own HX.out.st.tr) HX.out.bel A2.out).mono ?_
     rintro e w14 ⟨rfl, hi, hb, hk⟩
     refine ⟨_, rfl, ?_⟩
     have n0_ := aW (pt_other hk BD.out (by decide) (by decide)); have n1_ := aW (HZ.trd HX.out hi hb hk)
     clear BD HX
     have BD := n0_; have HX := n1_
     clear n0_ n1_
     refine hK.out _ _ ⟨(blk_cell HX.out.st.blk 1).trans rfl, (blk_cell BD.out 0).trans rfl, (blk_cell BD.out 1).trans rfl⟩ (fun hHeld => ?_)
     clear hK K
     refine no_ 45 ?_
     clear hi hb hk
     refine pq_ 10 15 (bl 11 2047) HT_ ?_
     refine done_ (done_of HT_.out (by kernel_rfl)) ?_
     clear hHeld HT_ HW_
     try go_wp2
     have n0_ := aW (HZ.below HX.out (below_drew bR)); have n1_ := aW (blk_below BD.out (below_drew bR))
     clear HX BD
     have HX := n0_; have BD := n1_
     clear n0_ n1_
     refine start_ (n := 16) (S := fun w' => w'.cell? ⟨g, 1, none⟩ = some (.pointer (some ⟨tr, 0, none⟩)) ∧ w'.cell? ⟨g, 2, none⟩ = some (.pointer (some ⟨de, 0, none⟩)) ∧ w'.cell? ⟨bd, 0, none⟩ = some (.int .i64 d1)) (ds := []) (bl 16 0) (by kernel_rfl) rfl rfl ⟨(blk_cell HX.out.st.blk 1).trans rfl, (blk_cell HX.out.st.blk 2).trans rfl, (blk_cell BD.out 0).trans rfl⟩ (fun hHeld => ?_); refine with_tabW gcc_Gcc_Hear.tab9 gcc_Gcc_Hear.bits9 (fun HT_ HW_ => ?_)
     generalize World.drew w14 = w15 at HX BD hHeld ⊢
     refine pq_ 0 46 (bl 16 1) HT_ ?_
     refine pq_ 1 47 (bl 16 3) HT_ ?_
     refine pq_ 2 48 (bl 16 7) HT_ ?_
     refine pq_ 3 49 (bl 16 15) HT_ ?_
     refine tq_ 4 50 (bl 16 31) HT_ HW_ hHeld ?_ (hr := by rintro w' ⟨s0_, s1_, s2_⟩; go_simp; with_reducible rfl)
     refine pq_ 5 51 (bl 16 63) HT_ ?_
     refine pq_ 6 52 (bl 16 127) HT_ ?_
     refine pq_ 7 53 (bl 16 255) HT_ ?_
     refine pq_ 8 54 (bl 16 511) HT_ ?_
     refine pq_ 9 55 (bl 16 1023) HT_ ?_
     refine tq_ 10 56 (bl 16 2047) HT_ HW_ hHeld ?_ (hr := by rintro w' ⟨s0_, s1_, s2_⟩; go_simp; with_reducible rfl)
     refine pq_ 12 58 (bl 16 6143) HT_ ?_
     refine tq_ 13 59 (bl 16 14335) HT_ HW_ hHeld ?_ (hr := by rintro w' ⟨s0_, s1_, s2_⟩; go_simp; with_reducible rfl)
     refine pq_ 14 60 (bl 16 30719) HT_ ?_
     refine one_ (i := 11) (N := some 57) (bl 16 32767) rfl rfl (one_of HT_.out (by kernel_rfl)) (by decide) (fun K hK => ?_)
     refine gD_ Tryd.func22 #[.pointer (some ⟨tr, 0, none⟩)] ?_
     with_reducible refine (trend_Trend_Count.calls tr e2 e3 e4 e5 e6 e7 e8 e9 w0 _ HX.out.st.tr).mono ?_
     rintro e w16 ⟨rfl, hb⟩
     refine ⟨_, rfl, ?_⟩
     have n0_ := aW (blk_below BD.out hb); have n1_ := aW (HZ.below HX.out hb)
     clear BD HX
     have BD := n0_; have HX := n1_
     clear n0_ n1_
     refine hK.out _ _ ⟨(blk_cell HX.out.st.blk 1).trans rfl, (blk_cell HX.out.st.blk 2).trans rfl, (blk_cell BD.out 0).trans rfl⟩ (fun hHeld => ?_)
     clear hK K
     refine no_ 57 ?_
     clear hb
     refine one_ (i := 15) (N := some 61) (bl 16 65535) rfl rfl (one_of HT_.out (by kernel_rfl)) (by decide) (fun K hK => ?_)
     refine gD_ Tryd.func21 #[.pointer (some ⟨de, 0, none⟩), .int .i64 e1, .int .i64 e9, .int .i64 d1, .int .i64 a4] ?_
     with_reducible refine (detect_Detector_Add.calls k de s1.d0 s1.d1 s1.d2 s1.d3 s1.d4 s1.d5 e1 e9 d1 a4 f1 f2 f3 f4 f5 f6 f7 w0 _ HX.out.st.de HX.out.bel A3.out).mono ?_
     rintro e w17 ⟨rfl, hi, hb, hk⟩
     refine ⟨_, rfl, ?_⟩
     have n0_ := aW (kb_at hk BD.out (bkt BD.out HX.out.st.de.1 (by decide))); have n1_ := aW (HZ.det HX.out hi hb hk)
     clear BD HX
     have BD := n0_; have HX := n1_
     clear n0_ n1_
     refine hK.out _ _ ⟨(blk_cell HX.out.st.blk 1).trans rfl, (blk_cell HX.out.st.blk 2).trans rfl, (blk_cell BD.out 0).trans rfl⟩ (fun hHeld => ?_)
     clear hK K
     refine no_ 61 ?_
     clear hi hb hk
     refine done_ (done_of HT_.out (by kernel_rfl)) ?_
     clear hHeld HT_ HW_
     try go_wp2
     go_roundg (l1.length - (i + 1))
     case measure => have := HIX.out.2; have := HLT.out; omega
     case rel => exact ⟨wrap64 (x + 1), i + 1, { s1 with g := s2, t := ⟨e2, e3, e4, e5, e6, e7, e8, e9⟩, d0 := f2, d1 := f3, d2 := f4, d3 := f5, d4 := f6, d5 := f7 }, rfl, ⟨rfl⟩, ⟨o98, by have := HLT.out; omega⟩, HR, ⟨(show HZ w0 w _ g gr tr de ai lo { s1 with g := s2, t := ⟨e2, e3, e4, e5, e6, e7, e8, e9⟩, d0 := f2, d1 := f3, d2 := f4, d3 := f5, d4 := f6, d5 := f7 } from o64)⟩⟩
    ·refine box_step ?hg (N := 13) ?hd (cs := #[.int .i64 0, .int .i64 0, .int .i64 0]) (t := 67) ?hr ?_; (case hd => rfl); (case hg => rfl); (case hr => first | (go_simp; done) | (go_simp; rfl))
     intro bd hgd w10 hbox hb
     have GD := aW (show w.heap.size ≤ bd from by rw [hgd]; exact HX.out.ks.1)
     have BD := aW hbox
     have n0_ := aW (HZ.below HX.out hb); have n1_ := aW (blk_below BX.out hb)
     clear HX BX
     have HX := n0_; have BX := n1_
     clear n0_ n1_
     clear hbox hb hgd
     refine hK.out _ _ ⟨(blk_cell HX.out.st.blk 0).trans rfl, (blk_cell BX.out 0).trans rfl, (blk_cell BX.out 1).trans rfl, (blk_cell BX.out 2).trans rfl, (blk_cell BX.out 3).trans rfl, (blk_cell BX.out 4).trans rfl, (blk_cell BX.out 5).trans rfl⟩ (fun hHeld => ?_)
     clear hK K
     refine no_ 13 ?_
     refine one_ (i := 6) (N := some 32) (bl 13 1151) rfl rfl (one_of HT_.out (by kernel_rfl)) (by decide) (fun K hK => ?_)
     refine gD_ Tryd.func19 #[.pointer (some ⟨gr, 0, none⟩), .agg #[.int .i64 q, .int .i64 sz, .int .i64 at_, .int .i64 ca, .bool late, .bool ecn]] ?_
     with_reducible refine (group_Grouper_Add.calls k gr s1.g q sz at_ ca late ecn d1 d2 d3 true s2 w0 _ HX.out.st.gr HX.out.bel A1.out).mono ?_
     rintro e w11 ⟨rfl, hi, hb, hk⟩
     refine ⟨_, rfl, ?_⟩
     have n0_ := aW (HZ.grp_at HX.out hk BX.out (by decide)); have n1_ := aW (HZ.grp_at HX.out hk BD.out (by decide)); have n2_ := aW (HZ.grp HX.out hi hb hk)
     clear BX BD HX
     have BX := n0_; have BD := n1_; have HX := n2_
     clear n0_ n1_ n2_
     refine hK.out _ _ ⟨(blk_cell HX.out.st.blk 0).trans rfl, (blk_cell BX.out 0).trans rfl, (blk_cell BX.out 1).trans rfl, (blk_cell BX.out 2).trans rfl, (blk_cell BX.out 3).trans rfl, (blk_cell BX.out 4).trans rfl, (blk_cell BX.out 5).trans rfl⟩ (fun hHeld => ?_)
     clear hK K
     refine no_ 32 ?_
     clear hi hb hk
     refine pq_ 7 25 (bl 13 1279) HT_ ?_
     refine pq_ 8 33 (bl 13 1535) HT_ ?_
     refine pq_ 9 34 (bl 13 2047) HT_ ?_
     refine last_ (i := 11) (N := none) (bl 13 4095) rfl rfl (one_of HT_.out (by kernel_rfl)) (by decide) (fun K hK => ?_)
     obtain ⟨hs0_, hsf0_, hs1_, hsf1_, hs2_, hsf2_⟩ := bp3 BD.out
     refine skip_ (w1 := ?_) (by rfl) rfl ?_ ?_
     rotate_left
     ·go_simp
      rfl
     have n0_ : Aside0 (HZ w0 w (((w11.setCell ⟨bd, 0, none⟩ (.int .i64 d1)).setCell ⟨bd, 1, none⟩ (.int .i64 d2)).setCell ⟨bd, 2, none⟩ (.int .i64 d3)) g gr tr de ai lo { s1 with g := s2 }) := ⟨(HZ.setb (i := 2) (u := .int .i64 d3) (HZ.setb (i := 1) (u := .int .i64 d2) (HZ.setb (i := 0) (u := .int .i64 d1) HX.out BD.out (.inr rfl) GD.out) (blk_put (cs := #[.int .i64 0, .int .i64 0, .int .i64 0]) BD.out 0 (.int .i64 d1) rfl) (.inr rfl) GD.out) (blk_put (cs := #[.int .i64 d1, .int .i64 0, .int .i64 0]) (blk_put (cs := #[.int .i64 0, .int .i64 0, .int .i64 0]) BD.out 0 (.int .i64 d1) rfl) 1 (.int .i64 d2) rfl) (.inr rfl) GD.out)⟩
     have n1_ : Aside0 ((((w11.setCell ⟨bd, 0, none⟩ (.int .i64 d1)).setCell ⟨bd, 1, none⟩ (.int .i64 d2)).setCell ⟨bd, 2, none⟩ (.int .i64 d3)).heap[bd]? = some (.cells #[.int .i64 d1, .int .i64 d2, .int .i64 d3] 67 (0, 0))) := ⟨(blk_put (cs := #[.int .i64 d1, .int .i64 d2, .int .i64 0]) (blk_put (cs := #[.int .i64 d1, .int .i64 0, .int .i64 0]) (blk_put (cs := #[.int .i64 0, .int .i64 0, .int .i64 0]) BD.out 0 (.int .i64 d1) rfl) 1 (.int .i64 d2) rfl) 2 (.int .i64 d3) rfl)⟩
     clear hs0_ hsf0_ hs1_ hsf1_ hs2_ hsf2_ HX BD BX
     have HX := n0_; have BD := n1_
     clear n0_ n1_
     generalize (((w11.setCell ⟨bd, 0, none⟩ (.int .i64 d1)).setCell ⟨bd, 1, none⟩ (.int .i64 d2)).setCell ⟨bd, 2, none⟩ (.int .i64 d3)) = w12 at HX BD ⊢
     refine hK.out _ _ ?_
     clear hK K
     refine pq_ 12 14 (bl 13 8191) HT_ ?_
     refine done_ (done_of HT_.out (by kernel_rfl)) ?_
     clear hHeld HT_ HW_
     try go_wp2
     have n0_ := aW (HZ.below HX.out (below_drew bR)); have n1_ := aW (blk_below BD.out (below_drew bR))
     clear HX BD
     have HX := n0_; have BD := n1_
     clear n0_ n1_
     refine start_ (n := 11) (S := fun w' => w'.cell? ⟨g, 1, none⟩ = some (.pointer (some ⟨tr, 0, none⟩)) ∧ w'.cell? ⟨bd, 0, none⟩ = some (.int .i64 d1) ∧ w'.cell? ⟨bd, 1, none⟩ = some (.int .i64 d2)) (ds := []) (bl 11 0) (by kernel_rfl) rfl rfl ⟨(blk_cell HX.out.st.blk 1).trans rfl, (blk_cell BD.out 0).trans rfl, (blk_cell BD.out 1).trans rfl⟩ (fun hHeld => ?_); refine with_tabW gcc_Gcc_Hear.tab8 gcc_Gcc_Hear.bits8 (fun HT_ HW_ => ?_)
     generalize World.drew w12 = w13 at HX BD hHeld ⊢
     refine pq_ 0 36 (bl 11 1) HT_ ?_
     refine pq_ 1 37 (bl 11 3) HT_ ?_
     refine pq_ 2 38 (bl 11 7) HT_ ?_
     refine pq_ 3 39 (bl 11 15) HT_ ?_
     refine tq_ 4 40 (bl 11 31) HT_ HW_ hHeld ?_ (hr := by rintro w' ⟨s0_, s1_, s2_⟩; go_simp; with_reducible rfl)
     refine pq_ 5 41 (bl 11 63) HT_ ?_
     refine tq_ 6 42 (bl 11 127) HT_ HW_ hHeld ?_ (hr := by rintro w' ⟨s0_, s1_, s2_⟩; go_simp; with_reducible rfl)
     refine pq_ 7 43 (bl 11 255) HT_ ?_
     refine tq_ 8 44 (bl 11 511) HT_ HW_ hHeld ?_ (hr := by rintro w' ⟨s0_, s1_, s2_⟩; go_simp; with_reducible rfl)
     refine one_ (i := 9) (N := some 45) (bl 11 1023) rfl rfl (one_of HT_.out (by kernel_rfl)) (by decide) (fun K hK => ?_)
     refine gD_ Tryd.func20 #[.pointer (some ⟨tr, 0, none⟩), .int .i64 d1, .int .i64 d2] ?_
     with_reducible refine (trend_Trend_Add.callsP (PT w13) k tr s1.t.w s1.t.s s1.t.m s1.t.y s1.t.x s1.t.xs s1.t.ys s1.t.c d1 d2 e1 e2 e3 e4 e5 e6 e7 e8 e9 w0 _ (fun j hj => pt_fresh hj) (IsS88.own HX.out.st.tr) HX.out.bel A2.out).mono ?_
     rintro e w14 ⟨rfl, hi, hb, hk⟩
     refine ⟨_, rfl, ?_⟩
     have n0_ := aW (pt_other hk BD.out (by decide) (by decide)); have n1_ := aW (HZ.trd HX.out hi hb hk)
     clear BD HX
     have BD := n0_; have HX := n1_
     clear n0_ n1_
     refine hK.out _ _ ⟨(blk_cell HX.out.st.blk 1).trans rfl, (blk_cell BD.out 0).trans rfl, (blk_cell BD.out 1).trans rfl⟩ (fun hHeld => ?_)
     clear hK K
     refine no_ 45 ?_
     clear hi hb hk
     refine pq_ 10 15 (bl 11 2047) HT_ ?_
     refine done_ (done_of HT_.out (by kernel_rfl)) ?_
     clear hHeld HT_ HW_
     try go_wp2
     have n0_ := aW (HZ.below HX.out (below_drew bR)); have n1_ := aW (blk_below BD.out (below_drew bR))
     clear HX BD
     have HX := n0_; have BD := n1_
     clear n0_ n1_
     refine start_ (n := 16) (S := fun w' => w'.cell? ⟨g, 1, none⟩ = some (.pointer (some ⟨tr, 0, none⟩)) ∧ w'.cell? ⟨g, 2, none⟩ = some (.pointer (some ⟨de, 0, none⟩)) ∧ w'.cell? ⟨bd, 0, none⟩ = some (.int .i64 d1)) (ds := []) (bl 16 0) (by kernel_rfl) rfl rfl ⟨(blk_cell HX.out.st.blk 1).trans rfl, (blk_cell HX.out.st.blk 2).trans rfl, (blk_cell BD.out 0).trans rfl⟩ (fun hHeld => ?_); refine with_tabW gcc_Gcc_Hear.tab9 gcc_Gcc_Hear.bits9 (fun HT_ HW_ => ?_)
     generalize World.drew w14 = w15 at HX BD hHeld ⊢
     refine pq_ 0 46 (bl 16 1) HT_ ?_
     refine pq_ 1 47 (bl 16 3) HT_ ?_
     refine pq_ 2 48 (bl 16 7) HT_ ?_
     refine pq_ 3 49 (bl 16 15) HT_ ?_
     refine tq_ 4 50 (bl 16 31) HT_ HW_ hHeld ?_ (hr := by rintro w' ⟨s0_, s1_, s2_⟩; go_simp; with_reducible rfl)
     refine pq_ 5 51 (bl 16 63) HT_ ?_
     refine pq_ 6 52 (bl 16 127) HT_ ?_
     refine pq_ 7 53 (bl 16 255) HT_ ?_
     refine pq_ 8 54 (bl 16 511) HT_ ?_
     refine pq_ 9 55 (bl 16 1023) HT_ ?_
     refine tq_ 10 56 (bl 16 2047) HT_ HW_ hHeld ?_ (hr := by rintro w' ⟨s0_, s1_, s2_⟩; go_simp; with_reducible rfl)
     refine pq_ 12 58 (bl 16 6143) HT_ ?_
     refine tq_ 13 59 (bl 16 14335) HT_ HW_ hHeld ?_ (hr := by rintro w' ⟨s0_, s1_, s2_⟩; go_simp; with_reducible rfl)
     refine pq_ 14 60 (bl 16 30719) HT_ ?_
     refine one_ (i := 11) (N := some 57) (bl 16 32767) rfl rfl (one_of HT_.out (by kernel_rfl)) (by decide) (fun K hK => ?_)
     refine gD_ Tryd.func22 #[.pointer (some ⟨tr, 0, none⟩)] ?_
     with_reducible refine (trend_Trend_Count.calls tr e2 e3 e4 e5 e6 e7 e8 e9 w0 _ HX.out.st.tr).mono ?_
     rintro e w16 ⟨rfl, hb⟩
     refine ⟨_, rfl, ?_⟩
     have n0_ := aW (blk_below BD.out hb); have n1_ := aW (HZ.below HX.out hb)
     clear BD HX
     have BD := n0_; have HX := n1_
     clear n0_ n1_
     refine hK.out _ _ ⟨(blk_cell HX.out.st.blk 1).trans rfl, (blk_cell HX.out.st.blk 2).trans rfl, (blk_cell BD.out 0).trans rfl⟩ (fun hHeld => ?_)
     clear hK K
     refine no_ 57 ?_
     clear hb
     refine one_ (i := 15) (N := some 61) (bl 16 65535) rfl rfl (one_of HT_.out (by kernel_rfl)) (by decide) (fun K hK => ?_)
     refine gD_ Tryd.func21 #[.pointer (some ⟨de, 0, none⟩), .int .i64 e1, .int .i64 e9, .int .i64 d1, .int .i64 a4] ?_
     with_reducible refine (detect_Detector_Add.calls k de s1.d0 s1.d1 s1.d2 s1.d3 s1.d4 s1.d5 e1 e9 d1 a4 f1 f2 f3 f4 f5 f6 f7 w0 _ HX.out.st.de HX.out.bel A3.out).mono ?_
     rintro e w17 ⟨rfl, hi, hb, hk⟩
     refine ⟨_, rfl, ?_⟩
     have n0_ := aW (kb_at hk BD.out (bkt BD.out HX.out.st.de.1 (by decide))); have n1_ := aW (HZ.det HX.out hi hb hk)
     clear BD HX
     have BD := n0_; have HX := n1_
     clear n0_ n1_
     refine hK.out _ _ ⟨(blk_cell HX.out.st.blk 1).trans rfl, (blk_cell HX.out.st.blk 2).trans rfl, (blk_cell BD.out 0).trans rfl⟩ (fun hHeld => ?_)
     clear hK K
     refine no_ 61 ?_
     clear hi hb hk
     refine done_ (done_of HT_.out (by kernel_rfl)) ?_
     clear hHeld HT_ HW_
     try go_wp2
     go_roundg (l1.length - (i + 1))
     case measure => have := HIX.out.2; have := HLT.out; omega
     case rel => exact ⟨wrap64 (x + 1), i + 1, { s1 with g := s2, t := ⟨e2, e3, e4, e5, e6, e7, e8, e9⟩, d0 := f2, d1 := f3, d2 := f4, d3 := f5, d4 := f6, d5 := f7 }, rfl, ⟨rfl⟩, ⟨o98, by have := HLT.out; omega⟩, HR, ⟨(show HZ w0 w _ g gr tr de ai lo { s1 with g := s2, t := ⟨e2, e3, e4, e5, e6, e7, e8, e9⟩, d0 := f2, d1 := f3, d2 := f4, d3 := f5, d4 := f6, d5 := f7 } from o64)⟩⟩
  ·have hi : i = l1.length := by have := HIX.out.2; omega
   have ha := HA.out
   rw [hi, List.drop_length] at ha
   obtain rfl : s1 = sN := Option.some.inj ha
   clear ha HA
   have c0 : decide (x < (l1.length : Int)) = false := decide_eq_false (by rw [HIX.out.1, hi]; omega)
   clear hi hlt
   by_cases hl0 : l1.length = 0
   ·have HL0 := aW hl0
    have c1 : decide (0 < (l1.length : Int)) = false := decide_eq_false (by omega)
    have c1b : decide (0 < l1.length) = false := decide_eq_false (by omega)
    clear hl0
    obtain rfl : s1 = sR := by simpa [gcc_Gcc_Hear.rated, HL0.out] using A5.out
    have hc4_ : World.cell? _ ⟨g, 4, none⟩ = some (.pointer (some ⟨lo, 0, none⟩)) := (blk_cell HX.out.st.blk 4).trans rfl; have hf4_ := blk_frozen HX.out.st.blk 4
    go_wp2_with (first | (go_at_call 26; (with_reducible refine (lossy_Lossy_Update.calls lo s1.l0 s1.l1 s1.l2 s1.l3 s1.l4 a2 a4 v1 v2 v3 v4 v5 v6 w0 _ ?side1 ?side2 ?sideG A6.out).mono ?_); (case sideG => exact o39); (case side1 => exact (show HZ w0 w _ g gr tr de ai lo s1 from o64).st.lo); (case side2 => exact (show HZ w0 w _ g gr tr de ai lo s1 from o64).bel); rintro e w20 ⟨rfl, hi, hb, hk⟩; have n0_ := aW (HZ.lossy (show HZ w0 w _ g gr tr de ai lo s1 from o64) hi hb hk); clear HX; have HX := n0_; clear n0_ hi hb hk) | (go_at_call 13; (with_reducible refine (gcc_Gcc_Rate.calls g { s1 with l0 := v2, l1 := v3, l2 := v4, l3 := v5, l4 := v6 } (mn s1.a0 v2) { s1 with l0 := v2, l1 := v3, l2 := v4, l3 := v5, l4 := v6 } w0 _ ?side1 ?side2 rfl).mono ?_); (case side1 => exact ⟨gr, tr, de, ai, lo, (show HZ w0 w _ g gr tr de ai lo { s1 with l0 := v2, l1 := v3, l2 := v4, l3 := v5, l4 := v6 } from o64).st⟩); (case side2 => exact (show HZ w0 w _ g gr tr de ai lo { s1 with l0 := v2, l1 := v3, l2 := v4, l3 := v5, l4 := v6 } from o64).bel); rintro e w20r ⟨rfl, hi, hb, hk⟩; have n0_ := aW (HZ.mk (hk.2 _ _ _ _ _ (show HZ w0 w _ g gr tr de ai lo { s1 with l0 := v2, l1 := v3, l2 := v4, l3 := v5, l4 := v6 } from o64).st) hb (KS.after (show HZ w0 w _ g gr tr de ai lo { s1 with l0 := v2, l1 := v3, l2 := v4, l3 := v5, l4 := v6 } from o64) hb hk.1) (show HZ w0 w _ g gr tr de ai lo { s1 with l0 := v2, l1 := v3, l2 := v4, l3 := v5, l4 := v6 } from o64).wl); clear HX; have HX := n0_; clear n0_ hi hb hk))
    go_ret
    have hz_ := (show HZ w0 w _ g gr tr de ai lo { s1 with l0 := v2, l1 := v3, l2 := v4, l3 := v5, l4 := v6 } from o64)
    exact ⟨by first | rfl | (simp [*]; done), ⟨gr, tr, de, ai, lo, hz_.st⟩, hz_.bel, hz_.ks⟩
   ·have HL0 := aW hl0
    have c1 : decide (0 < (l1.length : Int)) = true := decide_eq_true (by omega)
    have c1b : decide (0 < l1.length) = true := decide_eq_true (by omega)
    clear hl0
    have h5 := A5.out
    unfold gcc_Gcc_Hear.rated at h5
    rw [if_neg HL0.out] at h5
    obtain ⟨t1, B1_, h5⟩ := Option.bind_eq_some_iff.mp h5
    obtain ⟨t2, B2_, h5⟩ := Option.bind_eq_some_iff.mp h5
    obtain ⟨⟨u1, u2, u3, u4, u5, u6, u7, u8, u9, u10⟩, B3_, h5⟩ := Option.bind_eq_some_iff.mp h5
    have B1 := aW B1_; have B2 := aW B2_; have B3 := aW B3_
    clear B1_ B2_ B3_
    obtain rfl := Option.some.inj h5
    clear h5 A5
    have pz : 0 ≤ wrap64 ((l1.length : Int) - 1) := by have := hr1.1.2.1; have := HL0.out; unfold wrap64; omega
    have qz : wrap64 ((l1.length : Int) - 1) < (l1.length : Int) := by have := hr1.1.2.1; have := HL0.out; unfold wrap64; omega
    obtain ⟨⟨⟨q, sz, at_⟩, ca, late, ecn⟩, hel⟩ : ∃ y, rd_T41 l1 (wrap64 ((l1.length : Int) - 1)) = y := ⟨_, rfl⟩
    have B1x := aW (show sat_Sub.f k a4 at_ = some t1 from by have hb1 := B1.out; rw [hel] at hb1; exact hb1)
    obtain ⟨ad, ead, hx0_, hx1_, hx2_, hx3_, hx4_, hx5_⟩ := at_T41 (C_ks hr1 HX.out.ks) (wrap64 ((l1.length : Int) - 1)) pz qz
    have hA1 := ead
    rw [hel] at hx0_ hx1_ hx2_ hx3_ hx4_ hx5_
    dsimp only at hx0_ hx1_ hx2_ hx3_ hx4_ hx5_
    subst ead
    replace pz := eq_true pz; replace qz := eq_true qz
    try go_wp2_with (first | ((with_reducible refine gate_callee (f := 24) rfl ?_); refine gL_ 76 Tryd.func24 #[.int .i64 a4, .int .i64 at_] ?_; (with_reducible refine (sat_Sub.calls k a4 at_ t1 _ B1x.out).mono ?_); rintro e w20 ⟨rfl, hb⟩; refine ⟨_, rfl, ?_⟩; replace HX := aW (HZ.below (show HZ w0 w _ g gr tr de ai lo s1 from o64) hb); clear hb; have hc5_ : World.cell? w20 ⟨g, 5, none⟩ = some (.int .i64 s1.rtt) := (blk_cell HX.out.st.blk 5).trans rfl; have hf5_ := blk_frozen HX.out.st.blk 5) | ((with_reducible refine gate_callee (f := 23) rfl ?_); refine gL_ 77 Tryd.func23 #[.int .i64 t1, .int .i64 1000, .int .i64 1000000] ?_; (with_reducible refine (sat_Clamp.calls t1 1000 1000000 t2 _ B2.out).mono ?_); rintro e w' ⟨rfl, ⟨nd, rfl⟩⟩; refine ⟨_, rfl, ?_⟩; (generalize hq_ : World.drewN w20 _ = w21; have n0_ : Aside0 (HZ w0 w w21 g gr tr de ai lo s1) := ⟨by rw [← hq_]; exact HZ.below HX.out (pw_below_drewN bR _)⟩; clear HX hq_ hc5_ hf5_; have HX := n0_; clear n0_; have hc5_ : World.cell? w21 ⟨g, 5, none⟩ = some (.int .i64 s1.rtt) := (blk_cell HX.out.st.blk 5).trans rfl; have hf5_ := blk_frozen HX.out.st.blk 5)))
    clear hx0_ hx1_ hx2_ hx3_ hx4_ hx5_ pz qz hc5_ hf5_
    have n0_ : Aside0 (HZ w0 w (w21.setCell ⟨g, 5, none⟩ (.int .i64 t2)) g gr tr de ai lo { s1 with rtt := t2 }) := ⟨HZ.rt HX.out t2⟩
    clear HX; have HX := n0_; clear n0_
    generalize w21.setCell ⟨g, 5, none⟩ (.int .i64 t2) = w22 at HX ⊢
    replace HX := aW (HZ.below HX.out (below_drew bR))
    refine start_ (n := 13) (S := fun w' => w'.cell? ⟨g, 3, none⟩ = some (.pointer (some ⟨ai, 0, none⟩)) ∧ w'.cell? ⟨g, 5, none⟩ = some (.int .i64 t2)) (ds := []) (bl 13 0) (by kernel_rfl) rfl rfl ⟨(blk_cell HX.out.st.blk 3).trans rfl, (blk_cell HX.out.st.blk 5).trans rfl⟩ (fun hHeld => ?_); refine with_tabW gcc_Gcc_Hear.tab14 gcc_Gcc_Hear.bits14 (fun HT_ HW_ => ?_)
    generalize World.drew w22 = w23 at HX  hHeld ⊢
    refine pq_ 0 80 (bl 13 1) HT_ ?_
    refine pq_ 1 81 (bl 13 3) HT_ ?_
    refine pq_ 2 82 (bl 13 7) HT_ ?_
    refine tq_ 3 83 (bl 13 15) HT_ HW_ hHeld ?_ (hr := by rintro w' ⟨s0_, s1_⟩; go_simp; with_reducible rfl)
    refine pq_ 4 84 (bl 13 31) HT_ ?_
    refine pq_ 6 86 (bl 13 95) HT_ ?_
    refine pq_ 7 87 (bl 13 223) HT_ ?_
    refine pq_ 8 88 (bl 13 479) HT_ ?_
    refine pq_ 9 89 (bl 13 991) HT_ ?_
    refine tq_ 10 90 (bl 13 2015) HT_ HW_ hHeld ?_ (hr := by rintro w' ⟨s0_, s1_⟩; go_simp; with_reducible rfl)
    refine pq_ 11 91 (bl 13 4063) HT_ ?_
    refine one_ (i := 5) (N := some 85) (bl 13 4095) rfl rfl (one_of HT_.out (by kernel_rfl)) (by decide) (fun K hK => ?_)
    refine gD_ Tryd.func12 #[.pointer (some ⟨g, 0, none⟩)] ?_
    with_reducible refine (gcc_Gcc_Usage.calls g { s1 with rtt := t2 } s1.d0 { s1 with rtt := t2 } w0 _ (IsS65.in_ HX.out.st) HX.out.bel rfl).mono ?_
    rintro e w24 ⟨rfl, hi, hb, hk⟩
    refine ⟨_, rfl, ?_⟩
    replace HX := aW (HZ.mk (hk.2 _ _ _ _ _ HX.out.st) hb (KS.after HX.out hb hk.1) HX.out.wl)
    refine hK.out _ _ ⟨(blk_cell HX.out.st.blk 3).trans rfl, (blk_cell HX.out.st.blk 5).trans rfl⟩ (fun hHeld => ?_)
    clear hK K
    refine no_ 85 ?_
    clear hi hb hk
    refine one_ (i := 12) (N := some 92) (bl 13 8191) rfl rfl (one_of HT_.out (by kernel_rfl)) (by decide) (fun K hK => ?_)
    refine gD_ Tryd.func25 #[.pointer (some ⟨ai, 0, none⟩), .int .i64 s1.d0, .int .i64 a3, .int .i64 t2, .int .i64 a4] ?_
    with_reducible refine (aimd_Aimd_Update.calls k ai s1.a0 s1.a1 s1.a2 s1.a3 s1.a4 s1.a5 s1.a6 s1.a7 s1.a8 s1.d0 a3 t2 a4 u1 u2 u3 u4 u5 u6 u7 u8 u9 u10 w0 _ HX.out.st.ai HX.out.bel B3.out).mono ?_
    rintro e w25 ⟨rfl, hi, hb, hk⟩
    refine ⟨_, rfl, ?_⟩
    replace HX := aW (HZ.aimd HX.out hi hb hk)
    refine hK.out _ _ ⟨(blk_cell HX.out.st.blk 3).trans rfl, (blk_cell HX.out.st.blk 5).trans rfl⟩ (fun hHeld => ?_)
    clear hK K
    refine no_ 92 ?_
    clear hi hb hk
    refine done_ (done_of HT_.out (by kernel_rfl)) ?_
    clear hHeld HT_ HW_
    have hc4_ : World.cell? w25 ⟨g, 4, none⟩ = some (.pointer (some ⟨lo, 0, none⟩)) := (blk_cell HX.out.st.blk 4).trans rfl; have hf4_ := blk_frozen HX.out.st.blk 4
    go_wp2_with (first | (go_at_call 26; (with_reducible refine (lossy_Lossy_Update.calls lo { s1 with rtt := t2, a0 := u2, a1 := u3, a2 := u4, a3 := u5, a4 := u6, a5 := u7, a6 := u8, a7 := u9, a8 := u10 }.l0 { s1 with rtt := t2, a0 := u2, a1 := u3, a2 := u4, a3 := u5, a4 := u6, a5 := u7, a6 := u8, a7 := u9, a8 := u10 }.l1 { s1 with rtt := t2, a0 := u2, a1 := u3, a2 := u4, a3 := u5, a4 := u6, a5 := u7, a6 := u8, a7 := u9, a8 := u10 }.l2 { s1 with rtt := t2, a0 := u2, a1 := u3, a2 := u4, a3 := u5, a4 := u6, a5 := u7, a6 := u8, a7 := u9, a8 := u10 }.l3 { s1 with rtt := t2, a0 := u2, a1 := u3, a2 := u4, a3 := u5, a4 := u6, a5 := u7, a6 := u8, a7 := u9, a8 := u10 }.l4 a2 a4 v1 v2 v3 v4 v5 v6 w0 _ ?side1 ?side2 ?sideG A6.out).mono ?_); (case sideG => exact o39); (case side1 => exact (show HZ w0 w _ g gr tr de ai lo { s1 with rtt := t2, a0 := u2, a1 := u3, a2 := u4, a3 := u5, a4 := u6, a5 := u7, a6 := u8, a7 := u9, a8 := u10 } from o64).st.lo); (case side2 => exact (show HZ w0 w _ g gr tr de ai lo { s1 with rtt := t2, a0 := u2, a1 := u3, a2 := u4, a3 := u5, a4 := u6, a5 := u7, a6 := u8, a7 := u9, a8 := u10 } from o64).bel); rintro e w26 ⟨rfl, hi, hb, hk⟩; have n0_ := aW (HZ.lossy (show HZ w0 w _ g gr tr de ai lo { s1 with rtt := t2, a0 := u2, a1 := u3, a2 := u4, a3 := u5, a4 := u6, a5 := u7, a6 := u8, a7 := u9, a8 := u10 } from o64) hi hb hk); clear HX; have HX := n0_; clear n0_ hi hb hk) | (go_at_call 13; (with_reducible refine (gcc_Gcc_Rate.calls g { { s1 with rtt := t2, a0 := u2, a1 := u3, a2 := u4, a3 := u5, a4 := u6, a5 := u7, a6 := u8, a7 := u9, a8 := u10 } with l0 := v2, l1 := v3, l2 := v4, l3 := v5, l4 := v6 } (mn { s1 with rtt := t2, a0 := u2, a1 := u3, a2 := u4, a3 := u5, a4 := u6, a5 := u7, a6 := u8, a7 := u9, a8 := u10 }.a0 v2) { { s1 with rtt := t2, a0 := u2, a1 := u3, a2 := u4, a3 := u5, a4 := u6, a5 := u7, a6 := u8, a7 := u9, a8 := u10 } with l0 := v2, l1 := v3, l2 := v4, l3 := v5, l4 := v6 } w0 _ ?side1 ?side2 rfl).mono ?_); (case side1 => exact ⟨gr, tr, de, ai, lo, (show HZ w0 w _ g gr tr de ai lo { { s1 with rtt := t2, a0 := u2, a1 := u3, a2 := u4, a3 := u5, a4 := u6, a5 := u7, a6 := u8, a7 := u9, a8 := u10 } with l0 := v2, l1 := v3, l2 := v4, l3 := v5, l4 := v6 } from o64).st⟩); (case side2 => exact (show HZ w0 w _ g gr tr de ai lo { { s1 with rtt := t2, a0 := u2, a1 := u3, a2 := u4, a3 := u5, a4 := u6, a5 := u7, a6 := u8, a7 := u9, a8 := u10 } with l0 := v2, l1 := v3, l2 := v4, l3 := v5, l4 := v6 } from o64).bel); rintro e w26r ⟨rfl, hi, hb, hk⟩; have n0_ := aW (HZ.mk (hk.2 _ _ _ _ _ (show HZ w0 w _ g gr tr de ai lo { { s1 with rtt := t2, a0 := u2, a1 := u3, a2 := u4, a3 := u5, a4 := u6, a5 := u7, a6 := u8, a7 := u9, a8 := u10 } with l0 := v2, l1 := v3, l2 := v4, l3 := v5, l4 := v6 } from o64).st) hb (KS.after (show HZ w0 w _ g gr tr de ai lo { { s1 with rtt := t2, a0 := u2, a1 := u3, a2 := u4, a3 := u5, a4 := u6, a5 := u7, a6 := u8, a7 := u9, a8 := u10 } with l0 := v2, l1 := v3, l2 := v4, l3 := v5, l4 := v6 } from o64) hb hk.1) (show HZ w0 w _ g gr tr de ai lo { { s1 with rtt := t2, a0 := u2, a1 := u3, a2 := u4, a3 := u5, a4 := u6, a5 := u7, a6 := u8, a7 := u9, a8 := u10 } with l0 := v2, l1 := v3, l2 := v4, l3 := v5, l4 := v6 } from o64).wl); clear HX; have HX := n0_; clear n0_ hi hb hk))
    go_ret
    have hz_ := (show HZ w0 w _ g gr tr de ai lo { { s1 with rtt := t2, a0 := u2, a1 := u3, a2 := u4, a3 := u5, a4 := u6, a5 := u7, a6 := u8, a7 := u9, a8 := u10 } with l0 := v2, l1 := v3, l2 := v4, l3 := v5, l4 := v6 } from o64)
    exact ⟨by first | rfl | (simp [*]; done), ⟨gr, tr, de, ai, lo, hz_.st⟩, hz_.bel, hz_.ks⟩
def gcc_Gcc_Hear.nilrecv.f (l1 : List S41) (a2 : Int) (a3 : Int) (a4 : Int) : Option Int := some 0
set_option maxHeartbeats 16000000 in
set_option maxRecDepth 100000 in
theorem gcc_Gcc_Hear.nilrecv.calls (A1 : Option Addr) (c1 : Nat) (l1 : List S41) (a2 : Int) (a3 : Int) (a4 : Int) (r : Int) (w : World) (hr1 : Kd.C k41 w A1 l1.length l1) (hc1 : l1.length ≤ c1) (h : gcc_Gcc_Hear.nilrecv.f l1 a2 a3 a4 = some r) :
  Calls Tryd.prog 10 #[.pointer none, .slice A1 l1.length c1, .int .i64 a2, .int .i64 a3, .int .i64 a4] w fun e w' => e = .returned (.int .i64 r) ∧ Below w.heap.size w w' := by
 have hpn25_eql : ∀ (a_ : Addr) (W_ : World), (Go.binOp .eql 25 (.pointer (some a_)) (.pointer none)).run Tryd.prog W_ = .ok (.bool false) W_ := fun _ _ => by kernel_rfl
 have hnn25_eql : ∀ (W_ : World), (Go.binOp .eql 25 (.pointer none) (.pointer none)).run Tryd.prog W_ = .ok (.bool true) W_ := fun _ => by kernel_rfl
 have H : (some 0 : Option Int) = some r := h
 clear h
 obtain rfl := Option.some.inj H
 clear H
 go_enter Tryd.func10, Tryd.ntmps10
 go_wp2
 go_ret
 exact ⟨o106, o93⟩
end Go.Proofs.YtphgeljglhjamaaDoor.P
end

section
namespace Go.Proofs.YtphgeljglhjamaaDoor.P
open Go.RowKit Go.Proofs.YtphgeljglhjamaaDoorW.PrintWords Go.Proofs.YtphgeljglhjamaaDoorW.PrintLast Go.Proofs.YtphgeljglhjamaaDoorW.PrintMore
attribute [local go_sem] max2_int min2_int max_two min_two max_three min_three max_four min_four
set_option linter.unusedVariables false
set_option linter.unusedSimpArgs false
def gcc_Gcc_Rtt.f (s0_0 : GccS) : Option (Int × GccS) := some (s0_0.rtt, s0_0)
set_option maxHeartbeats 8000000 in
set_option maxRecDepth 100000 in
theorem gcc_Gcc_Rtt.calls (g : Nat) (s0_0 : GccS) (r1 : Int) (r2 : GccS) (w0 w : World) (hI : IsS65 w0 w g s0_0) (hB : Below w0.heap.size w0 w) (h : gcc_Gcc_Rtt.f s0_0 = some (r1, r2)) :
  Calls Tryd.prog 11 #[.pointer (some ⟨g, 0, none⟩)] w fun e w' => e = .returned (.int .i64 r1) ∧ IsS65 w0 w' g r2 ∧ Below w0.heap.size w0 w' ∧ KS w0 w w' ∧ ∀ gr tr de ai lo, G65 w0 w g gr tr de ai lo s0_0 → G65 w0 w' g gr tr de ai lo r2 := by
 have hu65 := Tryd.underlying65
 have hu63 := Tryd.underlying63
 have hpn25_eql : ∀ (a_ : Addr) (W_ : World), (Go.binOp .eql 25 (.pointer (some a_)) (.pointer none)).run Tryd.prog W_ = .ok (.bool false) W_ := fun _ _ => by kernel_rfl
 have hnn25_eql : ∀ (W_ : World), (Go.binOp .eql 25 (.pointer none) (.pointer none)).run Tryd.prog W_ = .ok (.bool true) W_ := fun _ => by kernel_rfl
 simp only [gcc_Gcc_Rtt.f, Option.some.injEq, Prod.mk.injEq] at h
 obtain ⟨rfl, rfl⟩ := h
 obtain ⟨gr, tr, de, ai, lo, h0⟩ := hI
 have HX := aW (HZ.of h0 hB)
 have H0 := aW h0
 clear hB
 have hc5_ : w.cell? ⟨g, 5, none⟩ = some (.int .i64 s0_0.rtt) := (blk_cell h0.blk 5).trans rfl
 have hf5_ := blk_frozen h0.blk 5
 clear h0
 have hmn : (0 : Int) = 0 := rfl
 go_enter Tryd.func11, Tryd.ntmps11
 go_wp2
 go_ret
 have hz_ := (show HZ w0 w _ g gr tr de ai lo s0_0 from o64)
 exact ⟨by first | rfl | (simp only [hmn]; done) | (simp [*]; done), ⟨gr, tr, de, ai, lo, hz_.st⟩, hz_.bel, hz_.ks, fun gr' tr' de' ai' lo' h' => by obtain ⟨rfl, rfl, rfl, rfl, rfl⟩ := G65.uniq H0.out h'; exact hz_.st⟩
def gcc_Gcc_Rtt.nilrecv.f : Option Int := some 0
set_option maxHeartbeats 8000000 in
set_option maxRecDepth 100000 in
theorem gcc_Gcc_Rtt.nilrecv.calls (r : Int) (w : World) (h : gcc_Gcc_Rtt.nilrecv.f = some r) :
  Calls Tryd.prog 11 #[.pointer none] w fun e w' => e = .returned (.int .i64 r) ∧ Below w.heap.size w w' := by
 have hpn25_eql : ∀ (a_ : Addr) (W_ : World), (Go.binOp .eql 25 (.pointer (some a_)) (.pointer none)).run Tryd.prog W_ = .ok (.bool false) W_ := fun _ _ => by kernel_rfl
 have hnn25_eql : ∀ (W_ : World), (Go.binOp .eql 25 (.pointer none) (.pointer none)).run Tryd.prog W_ = .ok (.bool true) W_ := fun _ => by kernel_rfl
 have H : (some 0 : Option Int) = some r := h
 clear h
 obtain rfl := Option.some.inj H
 clear H
 go_enter Tryd.func11, Tryd.ntmps11
 go_wp2
 go_ret
 exact ⟨o106, o93⟩
def flywheellaw22_wakes.f (k : Nat)  : Option (Bool) := if (gcc_New.made.f 1000000 1000 5000000).isSome = true then ((gcc_New.made.f 1000000 1000 5000000).bind fun bt349 => (if bt349.2 = 0 then ((gcc_Gcc_Hear.f k bt349.1 ([] : List (S41)) 128 0 0).bind fun bt352 => (if bt352.1 = 750000 then ((gcc_Gcc_Usage.f bt352.2).bind fun bt354 => (if bt354.1 = 0 then ((gcc_Gcc_Rtt.f bt354.2).bind fun bt356 => (some (bt356.1 == 100000))) else (some false))) else (some false))) else (some false))) else ((gcc_New.nil.f 1000000 1000 5000000).bind fun t358 => (if t358 = 0 then ((gcc_Gcc_Hear.nilrecv.f ([] : List (S41)) 128 0 0).bind fun t359 => (if t359 = 750000 then ((gcc_Gcc_Usage.nilrecv.f).bind fun t360 => (if t360 = 0 then ((gcc_Gcc_Rtt.nilrecv.f).bind fun t361 => (some (t361 == 100000))) else (some false))) else (some false))) else (some false)))
theorem flywheellaw22_wakes.mono : ∀ k, LeO (flywheellaw22_wakes.f k ) (flywheellaw22_wakes.f (k + 1) ) := by
 intro  k
 unfold flywheellaw22_wakes.f
 repeat' first
   | (with_reducible exact gcc_Gcc_Hear.mono _ _ _ _ _ _)
   | (with_reducible exact LeO.refl _)
   | (with_reducible exact LeO.none _)
   | (with_reducible refine LeO.ite ?_ ?_)
   | (with_reducible refine LeO.bind ?_ (fun _ => ?_))
   | exact gcc_Gcc_Hear.mono _ _ _ _ _ _
   | exact LeO.none _
   | refine LeO.ite ?_ ?_
   | refine LeO.bind ?_ (fun _ => ?_)
set_option maxHeartbeats 8000000 in
set_option maxRecDepth 100000 in
theorem flywheellaw22_wakes.calls (k : Nat)  (r : Bool) (w : World) (hG : GL w) (h : flywheellaw22_wakes.f k  = some r) :
  Calls Tryd.prog 9 #[] w fun e w' => e = .returned (.bool r) ∧ Below w.heap.size w w' := by
 have HTB := aW hG
 clear hG
 have HB := aW (Below.refl w.heap.size w)
 have H : (if (gcc_New.made.f 1000000 1000 5000000).isSome = true then ((gcc_New.made.f 1000000 1000 5000000).bind fun bt349 => (if bt349.2 = 0 then ((gcc_Gcc_Hear.f k bt349.1 ([] : List (S41)) 128 0 0).bind fun bt352 => (if bt352.1 = 750000 then ((gcc_Gcc_Usage.f bt352.2).bind fun bt354 => (if bt354.1 = 0 then ((gcc_Gcc_Rtt.f bt354.2).bind fun bt356 => (some (bt356.1 == 100000))) else (some false))) else (some false))) else (some false))) else ((gcc_New.nil.f 1000000 1000 5000000).bind fun t358 => (if t358 = 0 then ((gcc_Gcc_Hear.nilrecv.f ([] : List (S41)) 128 0 0).bind fun t359 => (if t359 = 750000 then ((gcc_Gcc_Usage.nilrecv.f).bind fun t360 => (if t360 = 0 then ((gcc_Gcc_Rtt.nilrecv.f).bind fun t361 => (some (t361 == 100000))) else (some false))) else (some false))) else (some false)))) = some r := h
 clear h
 by_cases c1 : (gcc_New.made.f 1000000 1000 5000000).isSome = true
 ·rw [if_pos c1] at H
  have c1b0 : (gcc_New.made.f 1000000 1000 5000000).isSome = true := c1
  clear c1
  replace H := Option.bind_eq_some_iff.mp H
  obtain ⟨⟨t349, t351⟩, A20, H⟩ := H
  replace H : (if t351 = 0 then ((gcc_Gcc_Hear.f k t349 ([] : List (S41)) 128 0 0).bind fun bt352 => (if bt352.1 = 750000 then ((gcc_Gcc_Usage.f bt352.2).bind fun bt354 => (if bt354.1 = 0 then ((gcc_Gcc_Rtt.f bt354.2).bind fun bt356 => (some (bt356.1 == 100000))) else (some false))) else (some false))) else (some false)) = some r := H
  have A2 := aW A20
  clear A20
  by_cases c3 : t351 = 0
  ·rw [if_pos c3] at H
   have c3b0 : (t351 == 0) = true := beq_iff_eq.mpr c3
   have c3b1 : (t351 != 0) = false := bne_eq_false_iff_eq.mpr c3
   clear c3
   replace H := Option.bind_eq_some_iff.mp H
   obtain ⟨⟨t352, t353⟩, A40, H⟩ := H
   replace H : (if t352 = 750000 then ((gcc_Gcc_Usage.f t353).bind fun bt354 => (if bt354.1 = 0 then ((gcc_Gcc_Rtt.f bt354.2).bind fun bt356 => (some (bt356.1 == 100000))) else (some false))) else (some false)) = some r := H
   have A4 := aW A40
   clear A40
   by_cases c5 : t352 = 750000
   ·rw [if_pos c5] at H
    have c5b0 : (t352 == 750000) = true := beq_iff_eq.mpr c5
    have c5b1 : (t352 != 750000) = false := bne_eq_false_iff_eq.mpr c5
    clear c5
    replace H := Option.bind_eq_some_iff.mp H
    obtain ⟨⟨t354, t355⟩, A60, H⟩ := H
    replace H : (if t354 = 0 then ((gcc_Gcc_Rtt.f t355).bind fun bt356 => (some (bt356.1 == 100000))) else (some false)) = some r := H
    have A6 := aW A60
    clear A60
    by_cases c7 : t354 = 0
    ·rw [if_pos c7] at H
     have c7b0 : (t354 == 0) = true := beq_iff_eq.mpr c7
     have c7b1 : (t354 != 0) = false := bne_eq_false_iff_eq.mpr c7
     clear c7
     replace H := Option.bind_eq_some_iff.mp H
     obtain ⟨⟨t356, t357⟩, A80, H⟩ := H
     replace H : (some (t356 == 100000)) = some r := H
     have A8 := aW A80
     clear A80
     obtain rfl := Option.some.inj H
     go_enter Tryd.func9, Tryd.ntmps9
     go_wp2_with (first | ((with_reducible refine gate_callee (f := 7) rfl ?_); refine gL_ 4 Tryd.func7 #[.int .i64 1000000, .int .i64 1000, .int .i64 5000000] ?_; (with_reducible refine (gcc_New.made.calls 1000000 1000 5000000 t349 t351 _ _ bR A2.out).mono ?_); rintro e w9 ⟨g350, rfl, hi, hb, hb2⟩; refine ⟨_, rfl, ?_⟩; have HI350 := aW ((IsS65.rebase hi (below_size o76))); replace HB := aW (below_step o76 hb2); (try clear hb); (try clear hb2); (try clear hk); (try clear hi)) | (go_at_call 10; (refine (gcc_Gcc_Hear.calls k g350 t349 _ _ ([] : List (S41)) 128 0 0 t352 t353 w _ ?side1 ?side2 ?side3 ?side4 ?sideG A4.out).mono ?_); (case sideG => exact o39); (case side1 => exact o67); (case side2 => exact o48); (case side3 => exact R41.nil); (case side4 => exact Nat.le_refl _); rintro e w10 ⟨rfl, hi, hb, hk⟩; replace HI350 := aW (hi); replace HB := aW (hb); (try clear hb); (try clear hb2); (try clear hk); (try clear hi)) | (go_at_call 12; (with_reducible refine (gcc_Gcc_Usage.calls g350 t353 t354 t355 w _ ?side1 ?side2 A6.out).mono ?_); (case side1 => exact o67); (case side2 => exact o48); rintro e w11 ⟨rfl, hi, hb, hk⟩; replace HI350 := aW (hi); replace HB := aW (hb); (try clear hb); (try clear hb2); (try clear hk); (try clear hi)) | (go_at_call 11; (with_reducible refine (gcc_Gcc_Rtt.calls g350 t355 t356 t357 w _ ?side1 ?side2 A8.out).mono ?_); (case side1 => exact o67); (case side2 => exact o48); rintro e w12 ⟨rfl, hi, hb, hk⟩; replace HI350 := aW (hi); replace HB := aW (hb); (try clear hb); (try clear hb2); (try clear hk); (try clear hi)))
     go_ret
     exact ⟨o95, o47⟩
    ·rw [if_neg c7] at H
     have c7b0 : (t354 == 0) = false := beq_eq_false_iff_ne.mpr c7
     have c7b1 : (t354 != 0) = true := bne_iff_ne.mpr c7
     obtain rfl := Option.some.inj H
     go_enter Tryd.func9, Tryd.ntmps9
     go_wp2_with (first | ((with_reducible refine gate_callee (f := 7) rfl ?_); refine gL_ 4 Tryd.func7 #[.int .i64 1000000, .int .i64 1000, .int .i64 5000000] ?_; (with_reducible refine (gcc_New.made.calls 1000000 1000 5000000 t349 t351 _ _ bR A2.out).mono ?_); rintro e w13 ⟨g350, rfl, hi, hb, hb2⟩; refine ⟨_, rfl, ?_⟩; have HI350 := aW ((IsS65.rebase hi (below_size o76))); replace HB := aW (below_step o76 hb2); (try clear hb); (try clear hb2); (try clear hk); (try clear hi)) | (go_at_call 10; (refine (gcc_Gcc_Hear.calls k g350 t349 _ _ ([] : List (S41)) 128 0 0 t352 t353 w _ ?side1 ?side2 ?side3 ?side4 ?sideG A4.out).mono ?_); (case sideG => exact o39); (case side1 => exact o67); (case side2 => exact o48); (case side3 => exact R41.nil); (case side4 => exact Nat.le_refl _); rintro e w14 ⟨rfl, hi, hb, hk⟩; replace HI350 := aW (hi); replace HB := aW (hb); (try clear hb); (try clear hb2); (try clear hk); (try clear hi)) | (go_at_call 12; (with_reducible refine (gcc_Gcc_Usage.calls g350 t353 t354 t355 w _ ?side1 ?side2 A6.out).mono ?_); (case side1 => exact o67); (case side2 => exact o48); rintro e w15 ⟨rfl, hi, hb, hk⟩; replace HI350 := aW (hi); replace HB := aW (hb); (try clear hb); (try clear hb2); (try clear hk); (try clear hi)))
     go_ret
     exact ⟨o95, o47⟩
   ·rw [if_neg c5] at H
    have c5b0 : (t352 == 750000) = false := beq_eq_false_iff_ne.mpr c5
    have c5b1 : (t352 != 750000) = true := bne_iff_ne.mpr c5
    obtain rfl := Option.some.inj H
    go_enter Tryd.func9, Tryd.ntmps9
    go_wp2_with (first | ((with_reducible refine gate_callee (f := 7) rfl ?_); refine gL_ 4 Tryd.func7 #[.int .i64 1000000, .int .i64 1000, .int .i64 5000000] ?_; (with_reducible refine (gcc_New.made.calls 1000000 1000 5000000 t349 t351 _ _ bR A2.out).mono ?_); rintro e w16 ⟨g350, rfl, hi, hb, hb2⟩; refine ⟨_, rfl, ?_⟩; have HI350 := aW ((IsS65.rebase hi (below_size o76))); replace HB := aW (below_step o76 hb2); (try clear hb); (try clear hb2); (try clear hk); (try clear hi)) | (go_at_call 10; (refine (gcc_Gcc_Hear.calls k g350 t349 _ _ ([] : List (S41)) 128 0 0 t352 t353 w _ ?side1 ?side2 ?side3 ?side4 ?sideG A4.out).mono ?_); (case sideG => exact o39); (case side1 => exact o67); (case side2 => exact o48); (case side3 => exact R41.nil); (case side4 => exact Nat.le_refl _); rintro e w17 ⟨rfl, hi, hb, hk⟩; replace HI350 := aW (hi); replace HB := aW (hb); (try clear hb); (try clear hb2); (try clear hk); (try clear hi)))
    go_ret
    exact ⟨o95, o47⟩
  ·rw [if_neg c3] at H
   have c3b0 : (t351 == 0) = false := beq_eq_false_iff_ne.mpr c3
   have c3b1 : (t351 != 0) = true := bne_iff_ne.mpr c3
   obtain rfl := Option.some.inj H
   go_enter Tryd.func9, Tryd.ntmps9
   go_wp2_with (first | ((with_reducible refine gate_callee (f := 7) rfl ?_); refine gL_ 4 Tryd.func7 #[.int .i64 1000000, .int .i64 1000, .int .i64 5000000] ?_; (with_reducible refine (gcc_New.made.calls 1000000 1000 5000000 t349 t351 _ _ bR A2.out).mono ?_); rintro e w18 ⟨g350, rfl, hi, hb, hb2⟩; refine ⟨_, rfl, ?_⟩; have HI350 := aW ((IsS65.rebase hi (below_size o76))); replace HB := aW (below_step o76 hb2); (try clear hb); (try clear hb2); (try clear hk); (try clear hi)))
   go_ret
   exact ⟨o95, o47⟩
 ·rw [if_neg c1] at H
  have c1b0 : (gcc_New.made.f 1000000 1000 5000000).isSome = false := by simpa using c1
  clear c1
  obtain ⟨t358, A19, H⟩ := bw H
  replace H : (if t358 = 0 then ((gcc_Gcc_Hear.nilrecv.f ([] : List (S41)) 128 0 0).bind fun t359 => (if t359 = 750000 then ((gcc_Gcc_Usage.nilrecv.f).bind fun t360 => (if t360 = 0 then ((gcc_Gcc_Rtt.nilrecv.f).bind fun t361 => (some (t361 == 100000))) else (some false))) else (some false))) else (some false)) = some r := H
  by_cases c20 : t358 = 0
  ·rw [if_pos c20] at H
   have c20b0 : (t358 == 0) = true := beq_iff_eq.mpr c20
   have c20b1 : (t358 != 0) = false := bne_eq_false_iff_eq.mpr c20
   clear c20
   obtain ⟨t359, A21, H⟩ := bw H
   replace H : (if t359 = 750000 then ((gcc_Gcc_Usage.nilrecv.f).bind fun t360 => (if t360 = 0 then ((gcc_Gcc_Rtt.nilrecv.f).bind fun t361 => (some (t361 == 100000))) else (some false))) else (some false)) = some r := H
   by_cases c22 : t359 = 750000
   ·rw [if_pos c22] at H
    have c22b0 : (t359 == 750000) = true := beq_iff_eq.mpr c22
    have c22b1 : (t359 != 750000) = false := bne_eq_false_iff_eq.mpr c22
    clear c22
    obtain ⟨t360, A23, H⟩ := bw H
    replace H : (if t360 = 0 then ((gcc_Gcc_Rtt.nilrecv.f).bind fun t361 => (some (t361 == 100000))) else (some false)) = some r := H
    by_cases c24 : t360 = 0
    ·rw [if_pos c24] at H
     have c24b0 : (t360 == 0) = true := beq_iff_eq.mpr c24
     have c24b1 : (t360 != 0) = false := bne_eq_false_iff_eq.mpr c24
     clear c24
     obtain ⟨t361, A25, H⟩ := bw H
     replace H : (some (t361 == 100000)) = some r := H
     obtain rfl := Option.some.inj H
     go_enter Tryd.func9, Tryd.ntmps9
     go_wp2_with (first | ((with_reducible refine gate_callee (f := 7) rfl ?_); refine gL_ 4 Tryd.func7 #[.int .i64 1000000, .int .i64 1000, .int .i64 5000000] ?_; (with_reducible refine (gcc_New.nil.calls 1000000 1000 5000000 t358 _ A19.out).mono ?_); rintro e w26 ⟨rfl, hb⟩; refine ⟨_, rfl, ?_⟩; replace HB := aW (below_step o76 hb); (try clear hb); (try clear hb2); (try clear hk); (try clear hi)) | (go_at_call 10; (refine (gcc_Gcc_Hear.nilrecv.calls  _ _ ([] : List (S41)) 128 0 0 t359 _ ?side1 ?side2 A21.out).mono ?_); (case side1 => exact Kd.C_nil _ _); (case side2 => exact Nat.le_refl _); rintro e w27 ⟨rfl, hb⟩; replace HB := aW (below_step o76 hb); (try clear hb); (try clear hb2); (try clear hk); (try clear hi)) | (go_at_call 12; (with_reducible refine (gcc_Gcc_Usage.nilrecv.calls  t360 _ A23.out).mono ?_); rintro e w28 ⟨rfl, hb⟩; replace HB := aW (below_step o76 hb); (try clear hb); (try clear hb2); (try clear hk); (try clear hi)) | (go_at_call 11; (with_reducible refine (gcc_Gcc_Rtt.nilrecv.calls  t361 _ A25.out).mono ?_); rintro e w29 ⟨rfl, hb⟩; replace HB := aW (below_step o76 hb); (try clear hb); (try clear hb2); (try clear hk); (try clear hi)))
     go_ret
     exact ⟨o95, o77⟩
    ·rw [if_neg c24] at H
     have c24b0 : (t360 == 0) = false := beq_eq_false_iff_ne.mpr c24
     have c24b1 : (t360 != 0) = true := bne_iff_ne.mpr c24
     obtain rfl := Option.some.inj H
     go_enter Tryd.func9, Tryd.ntmps9
     go_wp2_with (first | ((with_reducible refine gate_callee (f := 7) rfl ?_); refine gL_ 4 Tryd.func7 #[.int .i64 1000000, .int .i64 1000, .int .i64 5000000] ?_; (with_reducible refine (gcc_New.nil.calls 1000000 1000 5000000 t358 _ A19.out).mono ?_); rintro e w30 ⟨rfl, hb⟩; refine ⟨_, rfl, ?_⟩; replace HB := aW (below_step o76 hb); (try clear hb); (try clear hb2); (try clear hk); (try clear hi)) | (go_at_call 10; (refine (gcc_Gcc_Hear.nilrecv.calls  _ _ ([] : List (S41)) 128 0 0 t359 _ ?side1 ?side2 A21.out).mono ?_); (case side1 => exact Kd.C_nil _ _); (case side2 => exact Nat.le_refl _); rintro e w31 ⟨rfl, hb⟩; replace HB := aW (below_step o76 hb); (try clear hb); (try clear hb2); (try clear hk); (try clear hi)) | (go_at_call 12; (with_reducible refine (gcc_Gcc_Usage.nilrecv.calls  t360 _ A23.out).mono ?_); rintro e w32 ⟨rfl, hb⟩; replace HB := aW (below_step o76 hb); (try clear hb); (try clear hb2); (try clear hk); (try clear hi)))
     go_ret
     exact ⟨o95, o77⟩
   ·rw [if_neg c22] at H
    have c22b0 : (t359 == 750000) = false := beq_eq_false_iff_ne.mpr c22
    have c22b1 : (t359 != 750000) = true := bne_iff_ne.mpr c22
    obtain rfl := Option.some.inj H
    go_enter Tryd.func9, Tryd.ntmps9
    go_wp2_with (first | ((with_reducible refine gate_callee (f := 7) rfl ?_); refine gL_ 4 Tryd.func7 #[.int .i64 1000000, .int .i64 1000, .int .i64 5000000] ?_; (with_reducible refine (gcc_New.nil.calls 1000000 1000 5000000 t358 _ A19.out).mono ?_); rintro e w33 ⟨rfl, hb⟩; refine ⟨_, rfl, ?_⟩; replace HB := aW (below_step o76 hb); (try clear hb); (try clear hb2); (try clear hk); (try clear hi)) | (go_at_call 10; (refine (gcc_Gcc_Hear.nilrecv.calls  _ _ ([] : List (S41)) 128 0 0 t359 _ ?side1 ?side2 A21.out).mono ?_); (case side1 => exact Kd.C_nil _ _); (case side2 => exact Nat.le_refl _); rintro e w34 ⟨rfl, hb⟩; replace HB := aW (below_step o76 hb); (try clear hb); (try clear hb2); (try clear hk); (try clear hi)))
    go_ret
    exact ⟨o95, o77⟩
  ·rw [if_neg c20] at H
   have c20b0 : (t358 == 0) = false := beq_eq_false_iff_ne.mpr c20
   have c20b1 : (t358 != 0) = true := bne_iff_ne.mpr c20
   obtain rfl := Option.some.inj H
   go_enter Tryd.func9, Tryd.ntmps9
   go_wp2_with (first | ((with_reducible refine gate_callee (f := 7) rfl ?_); refine gL_ 4 Tryd.func7 #[.int .i64 1000000, .int .i64 1000, .int .i64 5000000] ?_; (with_reducible refine (gcc_New.nil.calls 1000000 1000 5000000 t358 _ A19.out).mono ?_); rintro e w35 ⟨rfl, hb⟩; refine ⟨_, rfl, ?_⟩; replace HB := aW (below_step o76 hb); (try clear hb); (try clear hb2); (try clear hk); (try clear hi)))
   go_ret
   exact ⟨o95, o77⟩
end Go.Proofs.YtphgeljglhjamaaDoor.P
end

section
namespace Go.Proofs.YtphgeljglhjamaaDoor.P
open Go.RowKit Go.Proofs.YtphgeljglhjamaaDoorW.PrintWords Go.Proofs.YtphgeljglhjamaaDoorW.PrintLast Go.Proofs.YtphgeljglhjamaaDoorW.PrintMore
attribute [local go_sem] max2_int min2_int max_two min_two max_three min_three max_four min_four
set_option linter.unusedVariables false
set_option linter.unusedSimpArgs false
mutual
def flywheellaw22_GccBounds.l0 : Nat → List (S33) → Int → Int → Int → Int → GccS → Option (Bool)
 | 0, _, _, _, _, _, _ => none
 | k + 1, x1, x7, x363000, x363001, x363002, x365000 => if x7 < (x1.length : Int) then (flywheellaw22_GccBounds.j1 k x1 x7 (decide (x7 < 60)) x363000 x363001 x363002 x365000) else (flywheellaw22_GccBounds.j1 k x1 x7 false x363000 x363001 x363002 x365000)
def flywheellaw22_GccBounds.j1 : Nat → List (S33) → Int → Bool → Int → Int → Int → GccS → Option (Bool)
 | 0, _, _, _, _, _, _, _ => none
 | k + 1, x1, x7, x39, x363000, x363001, x363002, x365000 => if x39 = true then (if 0 ≤ x7 then (if x7 < (x1.length : Int) then (if (((rd_T33 x1 x7).f0).length : Int) > 300 then ((flywheellaw22_wakes.f k).bind fun t370 => (some t370)) else ((some (([] : List (S41)) : List (S41))).bind fun y371 => (if y371.length + ((rd_T33 x1 x7).f0).length < 3518437208883 then ((gcc_Gcc_Hear.f k x365000 (y371 ++ ((rd_T33 x1 x7).f0)) ((rd_T33 x1 x7).f1) ((rd_T33 x1 x7).f2) ((rd_T33 x1 x7).f3)).bind fun bt381 => (if bt381.1 < x363001 then (flywheellaw22_GccBounds.j2 k x1 x7 true x363000 x363001 x363002 bt381.2) else (if bt381.1 > x363002 then (flywheellaw22_GccBounds.j2 k x1 x7 true x363000 x363001 x363002 bt381.2) else ((gcc_Gcc_Rtt.f bt381.2).bind fun bt383 => (if bt383.1 < 1000 then (flywheellaw22_GccBounds.j2 k x1 x7 true x363000 x363001 x363002 bt383.2) else ((gcc_Gcc_Rtt.f bt383.2).bind fun bt385 => (flywheellaw22_GccBounds.j2 k x1 x7 (decide (bt385.1 > 1000000)) x363000 x363001 x363002 bt385.2))))))) else (none)))) else (none)) else (none)) else ((flywheellaw22_wakes.f k).bind fun t368 => (some t368))
def flywheellaw22_GccBounds.j2 : Nat → List (S33) → Int → Bool → Int → Int → Int → GccS → Option (Bool)
 | 0, _, _, _, _, _, _, _ => none
 | k + 1, x1, x7, x93, x363000, x363001, x363002, x365000 => if x93 = true then (some false) else (flywheellaw22_GccBounds.l0 k x1 (wrap64 (x7 + 1)) x363000 x363001 x363002 x365000)
def flywheellaw22_GccBounds.l5000 : Nat → List (S33) → Int → Option (Bool)
 | 0, _, _ => none
 | k + 1, x1, x7 => if x7 < (x1.length : Int) then (flywheellaw22_GccBounds.j4 k x1 x7 (decide (x7 < 60))) else (flywheellaw22_GccBounds.j4 k x1 x7 false)
def flywheellaw22_GccBounds.j4 : Nat → List (S33) → Int → Bool → Option (Bool)
 | 0, _, _, _ => none
 | k + 1, x1, x7, x39 => if x39 = true then (if 0 ≤ x7 then (if x7 < (x1.length : Int) then (if (((rd_T33 x1 x7).f0).length : Int) > 300 then ((flywheellaw22_wakes.f k).bind fun t392 => (some t392)) else (if (([] : List (S41))).length + ((rd_T33 x1 x7).f0).length < 3518437208883 then (none) else (none))) else (none)) else (none)) else ((flywheellaw22_wakes.f k).bind fun t390 => (some t390))
end
def flywheellaw22_GccBounds.f (k : Nat) (a0_0 : Int) (a0_1 : Int) (a0_2 : Int) (l1 : List (S33)) : Option (Bool) := if (gcc_New.made.f a0_0 a0_1 a0_2).isSome = true then ((gcc_New.made.f a0_0 a0_1 a0_2).bind fun bt363 => (if bt363.2 = 0 then (flywheellaw22_GccBounds.l0 k l1 0 a0_0 a0_1 a0_2 bt363.1) else ((flywheelref19_Rates.f a0_0 a0_1 a0_2).bind fun t366 => (if t366 = true then (some false) else ((flywheellaw22_wakes.f k).bind fun t367 => (some t367)))))) else ((gcc_New.nil.f a0_0 a0_1 a0_2).bind fun t387 => (if t387 = 0 then (flywheellaw22_GccBounds.l5000 k l1 0) else ((flywheelref19_Rates.f a0_0 a0_1 a0_2).bind fun t388 => (if t388 = true then (some false) else ((flywheellaw22_wakes.f k).bind fun t389 => (some t389))))))
def flywheellaw22_GccBounds.T9 : Bool × List (List Nat × List Nat) := (true, [([], []), ([], []), ([], []), ([], []), ([2, 3], [2, 3]), ([4], [4]), ([5], [5]), ([1, 6], [1, 6]), ([], []), ([], []), ([8, 9], [8, 9]), ([10], [10]), ([11], [11]), ([], []), ([], []), ([13, 14], [13, 14]), ([15], [15]), ([16], [16]), ([], []), ([], []), ([18, 19], [18, 19]), ([20], [20]), ([21], [21]), ([0, 7, 12, 17, 22, 7], [0, 7, 12, 17, 22]), ([23, 23, 0, 1, 2, 3, 4, 5, 6, 7, 8, 9, 10, 11, 12, 13, 14, 15, 16, 17, 18, 19, 20, 21, 22, 23], [23])])
def flywheellaw22_GccBounds.B9 : List Nat := [0, 0, 0, 0, 12, 28, 60, 126, 0, 0, 768, 1792, 3840, 0, 0, 24576, 57344, 122880, 0, 0, 786432, 1835008, 3932160, 8388607, 16777215]
theorem flywheellaw22_GccBounds.tab9 : rtab .any (opsOf Tryd.f3 9) = flywheellaw22_GccBounds.T9 := by kernel_rfl
theorem flywheellaw22_GccBounds.bits9 : waitsOk flywheellaw22_GccBounds.T9.2 flywheellaw22_GccBounds.B9 = true := by kernel_rfl
theorem IsS65.grownR {w0 W W1 : World} {g : Nat} {s : GccS} {base : Nat} {ok : Nat → Prop} {v : Value} {l : List S41} (h : IsS65 w0 W g s) (hg : W.grownBy W1 v.ownBlock) (ho : Kd.R k41 41 W base ok v l) : IsS65 w0 W1 g s := by
 have bk : ∀ {i : Nat} {cs : Array Value} {t : TypeId}, W.heap[i]? = some (.cells cs t (0, 0)) → t ≠ 41 → W1.heap[i]? = some (.cells cs t (0, 0)) := fun hi ht => blk_grown hi hg (fun e => by
  obtain ⟨c, hc⟩ := Kd.R_typed ho _ e.symm
  rw [hi] at hc
  injection hc with hc
  injection hc with _ hc _
  exact ht hc)
 obtain ⟨gr, tr, de, ai, lo, h⟩ := h
 exact ⟨gr, tr, de, ai, lo, bk h.blk (by decide), h.ge, IsS85.same h.gr (fun i cs t hi ht => bk hi (by rcases ht with rfl | rfl <;> decide)), IsS88.same h.tr (fun i cs t hi ht => bk hi (by rcases ht with rfl | rfl <;> decide)),
  ⟨bk h.de.1 (by decide), h.de.2⟩, ⟨bk h.ai.1 (by decide), h.ai.2⟩, ⟨bk h.lo.1 (by decide), h.lo.2⟩⟩
set_option maxHeartbeats 8000000 in
set_option maxRecDepth 100000 in
theorem flywheellaw22_GccBounds.calls (k : Nat) (a0_0 : Int) (a0_1 : Int) (a0_2 : Int) (A1 : Option Addr) (c1 : Nat) (l1 : List (S33)) (r : Bool) (w : World) (hr1 : Kd.C k33 w A1 l1.length l1) (hc1 : l1.length ≤ c1) (hG : GL w) (h : flywheellaw22_GccBounds.f k a0_0 a0_1 a0_2 l1 = some r) :
  Calls Tryd.prog 3 #[.agg #[.int .i64 a0_0, .int .i64 a0_1, .int .i64 a0_2], .slice A1 l1.length c1] w fun e w' => e = .returned (.bool r) ∧ Below w.heap.size w w' := by
 have HTB := aW hG
 clear hG
 have hu23 := Tryd.underlying23
 have HR1 := aW hr1
 have HC1 := aW hc1
 clear hr1 hc1
 have HB := aW (Below.refl w.heap.size w)
 have H : (if (gcc_New.made.f a0_0 a0_1 a0_2).isSome = true then ((gcc_New.made.f a0_0 a0_1 a0_2).bind fun bt363 => (if bt363.2 = 0 then (flywheellaw22_GccBounds.l0 k l1 0 a0_0 a0_1 a0_2 bt363.1) else ((flywheelref19_Rates.f a0_0 a0_1 a0_2).bind fun t366 => (if t366 = true then (some false) else ((flywheellaw22_wakes.f k).bind fun t367 => (some t367)))))) else ((gcc_New.nil.f a0_0 a0_1 a0_2).bind fun t387 => (if t387 = 0 then (flywheellaw22_GccBounds.l5000 k l1 0) else ((flywheelref19_Rates.f a0_0 a0_1 a0_2).bind fun t388 => (if t388 = true then (some false) else ((flywheellaw22_wakes.f k).bind fun t389 => (some t389))))))) = some r := h
 clear h
 by_cases c3 : (gcc_New.made.f a0_0 a0_1 a0_2).isSome = true
 ·rw [if_pos c3] at H
  have c3b0 : (gcc_New.made.f a0_0 a0_1 a0_2).isSome = true := c3
  clear c3
  replace H := Option.bind_eq_some_iff.mp H
  obtain ⟨⟨t363, t365⟩, A40, H⟩ := H
  replace H : (if t365 = 0 then (flywheellaw22_GccBounds.l0 k l1 0 a0_0 a0_1 a0_2 t363) else ((flywheelref19_Rates.f a0_0 a0_1 a0_2).bind fun t366 => (if t366 = true then (some false) else ((flywheellaw22_wakes.f k).bind fun t367 => (some t367))))) = some r := H
  have A4 := aW A40
  clear A40
  by_cases c5 : t365 = 0
  ·rw [if_pos c5] at H
   have c5b0 : (t365 == 0) = true := beq_iff_eq.mpr c5
   have c5b1 : (t365 != 0) = false := bne_eq_false_iff_eq.mpr c5
   clear c5
   have H' := aW H
   clear H
   go_enter Tryd.func3, Tryd.ntmps3
   go_wp2_with (first | ((with_reducible refine gate_dst (N := 2) rfl ?_); refine box_event ?hg (N := 2) ?hd (cs := #[.int .i64 a0_0, .int .i64 a0_1, .int .i64 a0_2]) (t := 23) ?hr ?_; (case hd => rfl); (case hg => rfl); (case hr => first | (go_simp; done) | (go_simp; rfl)); intro gb362 hg w6 hbox hb; have GE362 := aW ((by rw [hg]; exact (below_size o76) : w.heap.size ≤ gb362)); have GW362 := aW ((by rw [hg]; exact (below_size o76) : w.heap.size ≤ gb362)); have BK362 := aW (hbox); replace HB := aW (below_step o76 hb); clear hb hbox hg; have hcz7_0 : w6.cell? ⟨gb362, 0, none⟩ = some (.int .i64 a0_0) := (blk_cell BK362.out 0).trans rfl; have hcz7_1 : w6.cell? ⟨gb362, 1, none⟩ = some (.int .i64 a0_1) := (blk_cell BK362.out 1).trans rfl; have hcz7_2 : w6.cell? ⟨gb362, 2, none⟩ = some (.int .i64 a0_2) := (blk_cell BK362.out 2).trans rfl; have hfz7_0 := blk_frozen BK362.out 0; have hfz7_1 := blk_frozen BK362.out 1; have hfz7_2 := blk_frozen BK362.out 2) | ((with_reducible refine gate_callee (f := 7) rfl ?_); refine gL_ 16 Tryd.func7 #[.int .i64 a0_0, .int .i64 a0_1, .int .i64 a0_2] ?_; (with_reducible refine (gcc_New.made.calls a0_0 a0_1 a0_2 t363 t365 _ _ bR A4.out).mono ?_); rintro e w8 ⟨g364, rfl, hi, hb, hb2⟩; refine ⟨_, rfl, ?_⟩; have NB362_364 := aW (Ne.symm (IsS65.ne_blk hi (blk_below (g := gb362) (o := .cells #[.int .i64 a0_0, .int .i64 a0_1, .int .i64 a0_2] 23 (0, 0)) o78 hb2) (by decide))); have NB364_362 := aW (IsS65.ne_blk hi (blk_below (g := gb362) (o := .cells #[.int .i64 a0_0, .int .i64 a0_1, .int .i64 a0_2] 23 (0, 0)) o78 hb2) (by decide)); have HI364 := aW ((IsS65.rebase hi (below_size o58))); replace HB := aW (below_step o58 hb2); replace BK362 := aW (blk_below (g := gb362) (o := .cells #[.int .i64 a0_0, .int .i64 a0_1, .int .i64 a0_2] 23 (0, 0)) o78 hb2); (try clear hb); (try clear hb2); (try clear hk); (try clear hi)))
   go_loopg [7] k (fun kq v7 w' => ∃ (x7_1 : Int) (x365000_1 : GccS), v7 = .int .i64 x7_1 ∧ Aside0 (flywheellaw22_GccBounds.l0 kq l1 x7_1 a0_0 a0_1 a0_2 x365000_1 = some r) ∧ Aside0 (kq ≤ k) ∧ Aside0 (w'.heap[gb362]? = some (.cells #[.int .i64 a0_0, .int .i64 a0_1, .int .i64 a0_2] 23 (0, 0))) ∧ Aside0 (IsS65 w w' g364 x365000_1) ∧ Aside0 (Below w.heap.size w w'))
   case atStart => exact ⟨(0), (t363), o105, H', ⟨Nat.le_refl _⟩, ⟨by (with_reducible repeat (first | refine blk_drewN ?_ _ | refine blk_drew ?_ | refine blk_alloc ?_ _)); exact BK362.out⟩, ⟨o2⟩, ⟨o24⟩⟩
   case round =>
    clear H'
    try clear c1
    try clear p2
    try clear c3
    try clear c3b0
    try clear c5
    try clear c5b0
    try clear c5b1
    try clear c7
    try clear hcz7_0
    try clear hcz7_1
    try clear hcz7_2
    try clear hfz7_0
    try clear hfz7_1
    try clear hfz7_2
    obtain ⟨x7_1, x365000_1, rfl, HA, HK1, BK362, HI364, HB⟩ := hrel
    cases gk with
    | zero => exact absurd HA.out (by simp [flywheellaw22_GccBounds.l0])
    | succ k1 =>
     have H := HA.out
     clear HA
     simp only [flywheellaw22_GccBounds.l0] at H
     have HC9 := aW H
     clear H
     go_upto_region 5 with (fail)
     go_cut [39] (fun v39 wc => ∃ (kq : Nat) (x39_8 : Bool), v39 = .bool x39_8 ∧ Aside0 (flywheellaw22_GccBounds.j1 kq l1 x7_1 x39_8 a0_0 a0_1 a0_2 x365000_1 = some r) ∧ Aside0 (kq ≤ k1) ∧ Aside0 (wc.heap[gb362]? = some (.cells #[.int .i64 a0_0, .int .i64 a0_1, .int .i64 a0_2] 23 (0, 0))) ∧ Aside0 (IsS65 w wc g364 x365000_1) ∧ Aside0 (Below w.heap.size w wc))
     case first =>
      have H := HC9.out
      clear HC9
      by_cases c10 : x7_1 < (l1.length : Int)
      ·rw [if_pos c10] at H
       have c10b0 : decide (x7_1 < (l1.length : Int)) = true := decide_eq_true c10
       clear c10
       (first | rw [c10b0] | (simp only [i64_w, i32_w]; rw [c10b0]) | skip)
       have H' := aW H
       clear H
       go_wp2
       go_meet
       case rel => exact ⟨_, (decide (x7_1 < 60)), o105, H', ⟨o102⟩, ⟨by (with_reducible repeat (first | refine blk_drewN ?_ _ | refine blk_drew ?_ | refine blk_alloc ?_ _)); exact BK362.out⟩, ⟨o2⟩, ⟨o24⟩⟩
      ·rw [if_neg c10] at H
       have c10b0 : decide (x7_1 < (l1.length : Int)) = false := decide_eq_false c10
       clear c10
       (first | rw [c10b0] | (simp only [i64_w, i32_w]; rw [c10b0]) | skip)
       have H' := aW H
       clear H
       go_wp2
       go_meet
       case rel => exact ⟨_, (false), o105, H', ⟨o102⟩, ⟨by (with_reducible repeat (first | refine blk_drewN ?_ _ | refine blk_drew ?_ | refine blk_alloc ?_ _)); exact BK362.out⟩, ⟨o2⟩, ⟨o24⟩⟩
     case rest =>
      clear HC9
      try clear c1
      try clear p2
      try clear c3
      try clear c3b0
      try clear c5
      try clear c5b0
      try clear c5b1
      try clear c7
      try clear c10
      try clear c10b0
      try clear hcz7_0
      try clear hcz7_1
      try clear hcz7_2
      try clear hfz7_0
      try clear hfz7_1
      try clear hfz7_2
      try clear p2
      obtain ⟨kq, x39_8, rfl, HA, HJ8, BK362, HI364, HB⟩ := hcut
      cases kq with
      | zero => exact absurd HA.out (by simp [flywheellaw22_GccBounds.j1])
      | succ kj8 =>
       have H := HA.out
       clear HA
       simp only [flywheellaw22_GccBounds.j1] at H
       by_cases c11 : x39_8 = true
       ·subst c11
        have H1 : (if 0 ≤ x7_1 then (if x7_1 < (l1.length : Int) then (if (((rd_T33 l1 x7_1).f0).length : Int) > 300 then ((flywheellaw22_wakes.f kj8).bind fun t370 => (some t370)) else ((some (([] : List (S41)) : List (S41))).bind fun y371 => (if y371.length + ((rd_T33 l1 x7_1).f0).length < 3518437208883 then ((gcc_Gcc_Hear.f kj8 x365000_1 (y371 ++ ((rd_T33 l1 x7_1).f0)) ((rd_T33 l1 x7_1).f1) ((rd_T33 l1 x7_1).f2) ((rd_T33 l1 x7_1).f3)).bind fun bt381 => (if bt381.1 < a0_1 then (flywheellaw22_GccBounds.j2 kj8 l1 x7_1 true a0_0 a0_1 a0_2 bt381.2) else (if bt381.1 > a0_2 then (flywheellaw22_GccBounds.j2 kj8 l1 x7_1 true a0_0 a0_1 a0_2 bt381.2) else ((gcc_Gcc_Rtt.f bt381.2).bind fun bt383 => (if bt383.1 < 1000 then (flywheellaw22_GccBounds.j2 kj8 l1 x7_1 true a0_0 a0_1 a0_2 bt383.2) else ((gcc_Gcc_Rtt.f bt383.2).bind fun bt385 => (flywheellaw22_GccBounds.j2 kj8 l1 x7_1 (decide (bt385.1 > 1000000)) a0_0 a0_1 a0_2 bt385.2))))))) else (none)))) else (none)) else (none)) = some r := by rw [if_pos rfl] at H; exact H
        clear H
        have H := H1
        clear H1
        by_cases c12 : 0 ≤ x7_1
        ·rw [if_pos c12] at H
         have c12b0 : decide (0 ≤ x7_1) = true := decide_eq_true c12
         clear c12
         by_cases c13 : x7_1 < (l1.length : Int)
         ·rw [if_pos c13] at H
          have c13b0 : decide (x7_1 < (l1.length : Int)) = true := decide_eq_true c13
          clear c13
          by_cases c14 : (((rd_T33 l1 x7_1).f0).length : Int) > 300
          ·rw [if_pos c14] at H
           have c14b0 : decide (300 < (((rd_T33 l1 x7_1).f0).length : Int)) = true := decide_eq_true c14
           have c14b1 : decide (300 < ((rd_T33 l1 x7_1).f0).length) = true := decide_eq_true (by omega)
           clear c14
           obtain ⟨t370, A15, H⟩ := bw H
           replace H : (some t370) = some r := H
           obtain rfl := Option.some.inj H
           have p369 : 0 ≤ (x7_1 : Int) := of_decide_eq_true o104
           have q369 : x7_1 < (l1.length : Int) := of_decide_eq_true o104
           obtain ⟨ad369, A369_0, c369_0, e369, hx369_0, hx369_1, hx369_2, hx369_3, hl369_0, hi369_0⟩ := at_T33 HR1.out x7_1 p369 q369
           cases e369
           replace hx369_0 := (HB.out.cell (World.block_lt_of_cell? w _ hx369_0)).trans hx369_0
           replace hx369_1 := (HB.out.cell (World.block_lt_of_cell? w _ hx369_1)).trans hx369_1
           replace hx369_2 := (HB.out.cell (World.block_lt_of_cell? w _ hx369_2)).trans hx369_2
           replace hx369_3 := (HB.out.cell (World.block_lt_of_cell? w _ hx369_3)).trans hx369_3
           have HR369_0 := aW hi369_0
           have HC369_0 := aW hl369_0
           clear hi369_0 hl369_0
           replace p369 := eq_true p369
           replace q369 := eq_true q369
           go_wp2_with (first | ((with_reducible refine gate_callee (f := 9) rfl ?_); refine gL_ 49 Tryd.func9 #[] ?_; (with_reducible refine (flywheellaw22_wakes.calls kj8  t370 _ ?sideG A15.out).mono ?_); (case sideG => exact o17); rintro e w16 ⟨rfl, hb⟩; refine ⟨_, rfl, ?_⟩; replace HB := aW (below_step o23 hb); replace HI364 := aW (IsS65.below o1 hb); replace BK362 := aW (blk_below (g := gb362) (o := .cells #[.int .i64 a0_0, .int .i64 a0_1, .int .i64 a0_2] 23 (0, 0)) o78 hb); (try clear hb); (try clear hb2); (try clear hk); (try clear hi)))
           go_ret
           exact ⟨o95, o24⟩
          ·rw [if_neg c14] at H
           have c14b0 : decide (300 < (((rd_T33 l1 x7_1).f0).length : Int)) = false := decide_eq_false c14
           have c14b1 : decide (300 < ((rd_T33 l1 x7_1).f0).length) = false := decide_eq_false (by omega)
           clear c14
           obtain ⟨y371, hy371⟩ : ∃ y_ : List (S41), y_ = (([] : List (S41))) := ⟨_, rfl⟩
           replace H : (if y371.length + ((rd_T33 l1 x7_1).f0).length < 3518437208883 then ((gcc_Gcc_Hear.f kj8 x365000_1 (y371 ++ ((rd_T33 l1 x7_1).f0)) ((rd_T33 l1 x7_1).f1) ((rd_T33 l1 x7_1).f2) ((rd_T33 l1 x7_1).f3)).bind fun bt381 => (if bt381.1 < a0_1 then (flywheellaw22_GccBounds.j2 kj8 l1 x7_1 true a0_0 a0_1 a0_2 bt381.2) else (if bt381.1 > a0_2 then (flywheellaw22_GccBounds.j2 kj8 l1 x7_1 true a0_0 a0_1 a0_2 bt381.2) else ((gcc_Gcc_Rtt.f bt381.2).bind fun bt383 => (if bt383.1 < 1000 then (flywheellaw22_GccBounds.j2 kj8 l1 x7_1 true a0_0 a0_1 a0_2 bt383.2) else ((gcc_Gcc_Rtt.f bt383.2).bind fun bt385 => (flywheellaw22_GccBounds.j2 kj8 l1 x7_1 (decide (bt385.1 > 1000000)) a0_0 a0_1 a0_2 bt385.2))))))) else (none)) = some r := by first | (rw [hy371]; with_reducible exact H) | (have H2_ := (Option.bind_some _ _).symm.trans H; rw [hy371]; with_reducible exact H2_) | (have H2_ := (Option.bind_some _ _).symm.trans H; with_reducible exact H2_) | with_reducible exact H | (rw [hy371]; exact H) | exact H
           have Ny371 := aW hy371
           clear hy371
           by_cases c17 : y371.length + ((rd_T33 l1 x7_1).f0).length < 3518437208883
           ·rw [if_pos c17] at H
            have LMc17 := aW c17
            clear c17
            obtain ⟨y375, hy375⟩ : ∃ y_ : List (S41), y_ = (y371 ++ ((rd_T33 l1 x7_1).f0)) := ⟨_, rfl⟩
            replace H : ((gcc_Gcc_Hear.f kj8 x365000_1 y375 ((rd_T33 l1 x7_1).f1) ((rd_T33 l1 x7_1).f2) ((rd_T33 l1 x7_1).f3)).bind fun bt381 => (if bt381.1 < a0_1 then (flywheellaw22_GccBounds.j2 kj8 l1 x7_1 true a0_0 a0_1 a0_2 bt381.2) else (if bt381.1 > a0_2 then (flywheellaw22_GccBounds.j2 kj8 l1 x7_1 true a0_0 a0_1 a0_2 bt381.2) else ((gcc_Gcc_Rtt.f bt381.2).bind fun bt383 => (if bt383.1 < 1000 then (flywheellaw22_GccBounds.j2 kj8 l1 x7_1 true a0_0 a0_1 a0_2 bt383.2) else ((gcc_Gcc_Rtt.f bt383.2).bind fun bt385 => (flywheellaw22_GccBounds.j2 kj8 l1 x7_1 (decide (bt385.1 > 1000000)) a0_0 a0_1 a0_2 bt385.2))))))) = some r := by first | (rw [hy375]; with_reducible exact H) | (have H2_ := (Option.bind_some _ _).symm.trans H; rw [hy375]; with_reducible exact H2_) | (have H2_ := (Option.bind_some _ _).symm.trans H; with_reducible exact H2_) | with_reducible exact H | (rw [hy375]; exact H) | exact H
            have Ny375 := aW hy375
            clear hy375
            replace H := Option.bind_eq_some_iff.mp H
            obtain ⟨⟨t381, t382⟩, A180, H⟩ := H
            replace H : (if t381 < a0_1 then (flywheellaw22_GccBounds.j2 kj8 l1 x7_1 true a0_0 a0_1 a0_2 t382) else (if t381 > a0_2 then (flywheellaw22_GccBounds.j2 kj8 l1 x7_1 true a0_0 a0_1 a0_2 t382) else ((gcc_Gcc_Rtt.f t382).bind fun bt383 => (if bt383.1 < 1000 then (flywheellaw22_GccBounds.j2 kj8 l1 x7_1 true a0_0 a0_1 a0_2 bt383.2) else ((gcc_Gcc_Rtt.f bt383.2).bind fun bt385 => (flywheellaw22_GccBounds.j2 kj8 l1 x7_1 (decide (bt385.1 > 1000000)) a0_0 a0_1 a0_2 bt385.2)))))) = some r := H
            have A18 := aW A180
            clear A180
            have HC19 := aW H
            clear H
            have p369 : 0 ≤ (x7_1 : Int) := of_decide_eq_true o104
            have q369 : x7_1 < (l1.length : Int) := of_decide_eq_true o104
            obtain ⟨ad369, A369_0, c369_0, e369, hx369_0, hx369_1, hx369_2, hx369_3, hl369_0, hi369_0⟩ := at_T33 HR1.out x7_1 p369 q369
            cases e369
            replace hx369_0 := (HB.out.cell (World.block_lt_of_cell? w _ hx369_0)).trans hx369_0
            replace hx369_1 := (HB.out.cell (World.block_lt_of_cell? w _ hx369_1)).trans hx369_1
            replace hx369_2 := (HB.out.cell (World.block_lt_of_cell? w _ hx369_2)).trans hx369_2
            replace hx369_3 := (HB.out.cell (World.block_lt_of_cell? w _ hx369_3)).trans hx369_3
            have HR369_0 := aW hi369_0
            have HC369_0 := aW hl369_0
            clear hi369_0 hl369_0
            replace p369 := eq_true p369
            replace q369 := eq_true q369
            try go_wp2
            replace HB := aW (below_drew1 HB.out)
            replace HI364 := aW (IsS65.drew HI364.out)
            replace BK362 := aW (blk_drew BK362.out)
            have p374 : 0 ≤ (x7_1 : Int) := of_decide_eq_true o104
            have q374 : x7_1 < (l1.length : Int) := of_decide_eq_true o104
            obtain ⟨ad374, A374_0, c374_0, e374, hx374_0, hx374_1, hx374_2, hx374_3, hl374_0, hi374_0⟩ := at_T33 HR1.out x7_1 p374 q374
            have hw374_3 := hx374_3
            have hw374_2 := hx374_2
            have hw374_1 := hx374_1
            have hw374_0 := hx374_0
            obtain rfl : ad369 = ad374 := (by injection e374)
            replace hx374_0 := (HB.out.cell (World.block_lt_of_cell? w _ hx374_0)).trans hx374_0
            replace hx374_1 := (HB.out.cell (World.block_lt_of_cell? w _ hx374_1)).trans hx374_1
            replace hx374_2 := (HB.out.cell (World.block_lt_of_cell? w _ hx374_2)).trans hx374_2
            replace hx374_3 := (HB.out.cell (World.block_lt_of_cell? w _ hx374_3)).trans hx374_3
            have HR374_0 := aW hi374_0
            have HC374_0 := aW hl374_0
            clear hi374_0 hl374_0
            replace p374 := eq_true p374
            replace q374 := eq_true q374
            have p378 : 0 ≤ (x7_1 : Int) := of_decide_eq_true o104
            have q378 : x7_1 < (l1.length : Int) := of_decide_eq_true o104
            obtain ⟨ad378, A378_0, c378_0, e378, hx378_0, hx378_1, hx378_2, hx378_3, hl378_0, hi378_0⟩ := at_T33 HR1.out x7_1 p378 q378
            have hw378_3 := hx378_3
            have hw378_2 := hx378_2
            have hw378_1 := hx378_1
            have hw378_0 := hx378_0
            obtain rfl : ad369 = ad378 := (by injection e378)
            replace hx378_0 := (HB.out.cell (World.block_lt_of_cell? w _ hx378_0)).trans hx378_0
            replace hx378_1 := (HB.out.cell (World.block_lt_of_cell? w _ hx378_1)).trans hx378_1
            replace hx378_2 := (HB.out.cell (World.block_lt_of_cell? w _ hx378_2)).trans hx378_2
            replace hx378_3 := (HB.out.cell (World.block_lt_of_cell? w _ hx378_3)).trans hx378_3
            have HR378_0 := aW hi378_0
            have HC378_0 := aW hl378_0
            clear hi378_0 hl378_0
            replace p378 := eq_true p378
            replace q378 := eq_true q378
            have ea_ := Option.some.inj (hx374_0.symm.trans hx378_0)
            injection ea_ with ea_ en_ ec_
            subst ea_
            subst ec_
            clear en_
            have p379 : 0 ≤ (x7_1 : Int) := of_decide_eq_true o104
            have q379 : x7_1 < (l1.length : Int) := of_decide_eq_true o104
            obtain ⟨ad379, A379_0, c379_0, e379, hx379_0, hx379_1, hx379_2, hx379_3, hl379_0, hi379_0⟩ := at_T33 HR1.out x7_1 p379 q379
            have hw379_3 := hx379_3
            have hw379_2 := hx379_2
            have hw379_1 := hx379_1
            have hw379_0 := hx379_0
            obtain rfl : ad369 = ad379 := (by injection e379)
            replace hx379_0 := (HB.out.cell (World.block_lt_of_cell? w _ hx379_0)).trans hx379_0
            replace hx379_1 := (HB.out.cell (World.block_lt_of_cell? w _ hx379_1)).trans hx379_1
            replace hx379_2 := (HB.out.cell (World.block_lt_of_cell? w _ hx379_2)).trans hx379_2
            replace hx379_3 := (HB.out.cell (World.block_lt_of_cell? w _ hx379_3)).trans hx379_3
            have HR379_0 := aW hi379_0
            have HC379_0 := aW hl379_0
            clear hi379_0 hl379_0
            replace p379 := eq_true p379
            replace q379 := eq_true q379
            have ea_ := Option.some.inj (hx374_0.symm.trans hx379_0)
            injection ea_ with ea_ en_ ec_
            subst ea_
            subst ec_
            clear en_
            have p380 : 0 ≤ (x7_1 : Int) := of_decide_eq_true o104
            have q380 : x7_1 < (l1.length : Int) := of_decide_eq_true o104
            obtain ⟨ad380, A380_0, c380_0, e380, hx380_0, hx380_1, hx380_2, hx380_3, hl380_0, hi380_0⟩ := at_T33 HR1.out x7_1 p380 q380
            have hw380_3 := hx380_3
            have hw380_2 := hx380_2
            have hw380_1 := hx380_1
            have hw380_0 := hx380_0
            obtain rfl : ad369 = ad380 := (by injection e380)
            replace hx380_0 := (HB.out.cell (World.block_lt_of_cell? w _ hx380_0)).trans hx380_0
            replace hx380_1 := (HB.out.cell (World.block_lt_of_cell? w _ hx380_1)).trans hx380_1
            replace hx380_2 := (HB.out.cell (World.block_lt_of_cell? w _ hx380_2)).trans hx380_2
            replace hx380_3 := (HB.out.cell (World.block_lt_of_cell? w _ hx380_3)).trans hx380_3
            have HR380_0 := aW hi380_0
            have HC380_0 := aW hl380_0
            clear hi380_0 hl380_0
            replace p380 := eq_true p380
            replace q380 := eq_true q380
            have ea_ := Option.some.inj (hx374_0.symm.trans hx380_0)
            injection ea_ with ea_ en_ ec_
            subst ea_
            subst ec_
            clear en_
            refine start_ (n := 25) (S := fun w' => w'.cell? (ad369.add ((x7_1).toNat * 4)) = some (.slice A374_0 ((rd_T33 l1 x7_1).f0).length c374_0) ∧ w'.cell? ⟨(ad369.add ((x7_1).toNat * 4)).block, (ad369.add ((x7_1).toNat * 4)).off + 1, none⟩ = some (.int .i64 ((rd_T33 l1 x7_1).f1)) ∧ w'.cell? ⟨(ad369.add ((x7_1).toNat * 4)).block, (ad369.add ((x7_1).toNat * 4)).off + 2, none⟩ = some (.int .i64 ((rd_T33 l1 x7_1).f2)) ∧ w'.cell? ⟨(ad369.add ((x7_1).toNat * 4)).block, (ad369.add ((x7_1).toNat * 4)).off + 3, none⟩ = some (.int .i64 ((rd_T33 l1 x7_1).f3)) ∧ w'.cell? (ad369.add ((x7_1).toNat * 4)) = some (.slice A374_0 ((rd_T33 l1 x7_1).f0).length c374_0) ∧ w'.cell? ⟨(ad369.add ((x7_1).toNat * 4)).block, (ad369.add ((x7_1).toNat * 4)).off + 1, none⟩ = some (.int .i64 ((rd_T33 l1 x7_1).f1)) ∧ w'.cell? ⟨(ad369.add ((x7_1).toNat * 4)).block, (ad369.add ((x7_1).toNat * 4)).off + 2, none⟩ = some (.int .i64 ((rd_T33 l1 x7_1).f2)) ∧ w'.cell? ⟨(ad369.add ((x7_1).toNat * 4)).block, (ad369.add ((x7_1).toNat * 4)).off + 3, none⟩ = some (.int .i64 ((rd_T33 l1 x7_1).f3)) ∧ w'.cell? (ad369.add ((x7_1).toNat * 4)) = some (.slice A374_0 ((rd_T33 l1 x7_1).f0).length c374_0) ∧ w'.cell? ⟨(ad369.add ((x7_1).toNat * 4)).block, (ad369.add ((x7_1).toNat * 4)).off + 1, none⟩ = some (.int .i64 ((rd_T33 l1 x7_1).f1)) ∧ w'.cell? ⟨(ad369.add ((x7_1).toNat * 4)).block, (ad369.add ((x7_1).toNat * 4)).off + 2, none⟩ = some (.int .i64 ((rd_T33 l1 x7_1).f2)) ∧ w'.cell? ⟨(ad369.add ((x7_1).toNat * 4)).block, (ad369.add ((x7_1).toNat * 4)).off + 3, none⟩ = some (.int .i64 ((rd_T33 l1 x7_1).f3)) ∧ w'.cell? (ad369.add ((x7_1).toNat * 4)) = some (.slice A374_0 ((rd_T33 l1 x7_1).f0).length c374_0) ∧ w'.cell? ⟨(ad369.add ((x7_1).toNat * 4)).block, (ad369.add ((x7_1).toNat * 4)).off + 1, none⟩ = some (.int .i64 ((rd_T33 l1 x7_1).f1)) ∧ w'.cell? ⟨(ad369.add ((x7_1).toNat * 4)).block, (ad369.add ((x7_1).toNat * 4)).off + 2, none⟩ = some (.int .i64 ((rd_T33 l1 x7_1).f2)) ∧ w'.cell? ⟨(ad369.add ((x7_1).toNat * 4)).block, (ad369.add ((x7_1).toNat * 4)).off + 3, none⟩ = some (.int .i64 ((rd_T33 l1 x7_1).f3))) (ds := []) (bl 25 0) (by kernel_rfl) rfl rfl ⟨((HB.out.cell (World.block_lt_of_cell? w _ hw374_0)).trans hw374_0), ((HB.out.cell (World.block_lt_of_cell? w _ hw374_1)).trans hw374_1), ((HB.out.cell (World.block_lt_of_cell? w _ hw374_2)).trans hw374_2), ((HB.out.cell (World.block_lt_of_cell? w _ hw374_3)).trans hw374_3), ((HB.out.cell (World.block_lt_of_cell? w _ hw378_0)).trans hw378_0), ((HB.out.cell (World.block_lt_of_cell? w _ hw378_1)).trans hw378_1), ((HB.out.cell (World.block_lt_of_cell? w _ hw378_2)).trans hw378_2), ((HB.out.cell (World.block_lt_of_cell? w _ hw378_3)).trans hw378_3), ((HB.out.cell (World.block_lt_of_cell? w _ hw379_0)).trans hw379_0), ((HB.out.cell (World.block_lt_of_cell? w _ hw379_1)).trans hw379_1), ((HB.out.cell (World.block_lt_of_cell? w _ hw379_2)).trans hw379_2), ((HB.out.cell (World.block_lt_of_cell? w _ hw379_3)).trans hw379_3), ((HB.out.cell (World.block_lt_of_cell? w _ hw380_0)).trans hw380_0), ((HB.out.cell (World.block_lt_of_cell? w _ hw380_1)).trans hw380_1), ((HB.out.cell (World.block_lt_of_cell? w _ hw380_2)).trans hw380_2), ((HB.out.cell (World.block_lt_of_cell? w _ hw380_3)).trans hw380_3)⟩ (fun hHeld => ?_); refine with_tabW flywheellaw22_GccBounds.tab9 flywheellaw22_GccBounds.bits9 (fun HT_ HW_ => ?_)
            generalize wc.drew = w20 at BK362 HI364 HB HR374_0 HR378_0 HR379_0 HR380_0 hx374_0 hx374_1 hx374_2 hx374_3 hx378_0 hx378_1 hx378_2 hx378_3 hx379_0 hx379_1 hx379_2 hx379_3 hx380_0 hx380_1 hx380_2 hx380_3 hHeld ⊢
            refine pq_ 0 50 (bl 25 1) HT_ ?_
            refine pq_ 2 52 (bl 25 5) HT_ ?_
            refine pq_ 3 53 (bl 25 13) HT_ ?_
            refine pq_ 4 54 (bl 25 29) HT_ ?_
            refine pq_ 5 55 (bl 25 61) HT_ ?_
            refine pq_ 8 58 (bl 25 317) HT_ ?_
            refine pq_ 9 59 (bl 25 829) HT_ ?_
            refine pq_ 10 60 (bl 25 1853) HT_ ?_
            refine pq_ 11 61 (bl 25 3901) HT_ ?_
            refine pq_ 13 63 (bl 25 12093) HT_ ?_
            refine pq_ 14 64 (bl 25 28477) HT_ ?_
            refine pq_ 15 65 (bl 25 61245) HT_ ?_
            refine pq_ 16 66 (bl 25 126781) HT_ ?_
            refine pq_ 18 68 (bl 25 388925) HT_ ?_
            refine pq_ 19 69 (bl 25 913213) HT_ ?_
            refine pq_ 20 70 (bl 25 1961789) HT_ ?_
            refine pq_ 21 71 (bl 25 4058941) HT_ ?_
            refine tq_ 6 56 (bl 25 4059005) HT_ HW_ hHeld ?_ (hr := by rintro w' ⟨s0, s1, s2, s3, s4, s5, s6, s7, s8, s9, s10, s11, s12, s13, s14, s15⟩; go_simp; with_reducible rfl)
            refine tq_ 12 62 (bl 25 4063101) HT_ HW_ hHeld ?_ (hr := by rintro w' ⟨s0, s1, s2, s3, s4, s5, s6, s7, s8, s9, s10, s11, s12, s13, s14, s15⟩; go_simp; with_reducible rfl)
            refine tq_ 17 67 (bl 25 4194173) HT_ HW_ hHeld ?_ (hr := by rintro w' ⟨s0, s1, s2, s3, s4, s5, s6, s7, s8, s9, s10, s11, s12, s13, s14, s15⟩; go_simp; with_reducible rfl)
            refine tq_ 22 72 (bl 25 8388477) HT_ HW_ hHeld ?_ (hr := by rintro w' ⟨s0, s1, s2, s3, s4, s5, s6, s7, s8, s9, s10, s11, s12, s13, s14, s15⟩; go_simp; with_reducible rfl)
            refine one_ (i := 1) (N := some 51) (bl 25 8388479) rfl rfl (one_of HT_.out (by kernel_rfl)) (by decide) (fun K hK => ?_)
            refine Kd.R_lit_step k41 _ 41 ?hg (N := 51) ?hd (xs := ([] : List (S41))) (inner := []) (ok := fun _ => True) (okp := fun _ => True) ?hr ?hp (fun _ hk => hk) trivial bR (Nat.le_refl _) (by simp) ?_; (case hd => rfl); (case hg => rfl); (case hr => first | (go_simp; done) | (go_simp; rfl)); (case hp => exact (Reps.none _ _))
            intro v372 w21 ho22 hb hg_ hnew_
            clear hg_ hnew_
            (first | rw [← Ny371.out] at ho22 | (simp only [Int.reduceToNat] at ho22; rw [← Ny371.out] at ho22))
            have n0_ := aW (Kd.R_lower ho22 (below_size o23))
            have n1_ := aW (blk_below (g := gb362) (o := .cells #[.int .i64 a0_0, .int .i64 a0_1, .int .i64 a0_2] 23 (0, 0)) o78 hb)
            have n2_ := aW (IsS65.below o1 hb)
            have n3_ := aW (below_step o23 hb)
            clear BK362
            clear HI364
            clear HB
            have HO373 := n0_
            have BK362 := n1_
            have HI364 := n2_
            have HB := n3_
            clear n0_ n1_ n2_ n3_
            clear hb ho22
            refine hK.out _ _ ⟨((HB.out.cell (World.block_lt_of_cell? w _ hw374_0)).trans hw374_0), ((HB.out.cell (World.block_lt_of_cell? w _ hw374_1)).trans hw374_1), ((HB.out.cell (World.block_lt_of_cell? w _ hw374_2)).trans hw374_2), ((HB.out.cell (World.block_lt_of_cell? w _ hw374_3)).trans hw374_3), ((HB.out.cell (World.block_lt_of_cell? w _ hw378_0)).trans hw378_0), ((HB.out.cell (World.block_lt_of_cell? w _ hw378_1)).trans hw378_1), ((HB.out.cell (World.block_lt_of_cell? w _ hw378_2)).trans hw378_2), ((HB.out.cell (World.block_lt_of_cell? w _ hw378_3)).trans hw378_3), ((HB.out.cell (World.block_lt_of_cell? w _ hw379_0)).trans hw379_0), ((HB.out.cell (World.block_lt_of_cell? w _ hw379_1)).trans hw379_1), ((HB.out.cell (World.block_lt_of_cell? w _ hw379_2)).trans hw379_2), ((HB.out.cell (World.block_lt_of_cell? w _ hw379_3)).trans hw379_3), ((HB.out.cell (World.block_lt_of_cell? w _ hw380_0)).trans hw380_0), ((HB.out.cell (World.block_lt_of_cell? w _ hw380_1)).trans hw380_1), ((HB.out.cell (World.block_lt_of_cell? w _ hw380_2)).trans hw380_2), ((HB.out.cell (World.block_lt_of_cell? w _ hw380_3)).trans hw380_3)⟩ (fun hHeld => ?_)
            clear hK K
            refine no_ 51 ?_
            refine one_ (i := 7) (N := some 57) (bl 25 8388607) rfl rfl (one_of HT_.out (by kernel_rfl)) (by decide) (fun K hK => ?_)
            refine Kd.R_append_rows_step k41 (w0 := w) w.heap.size (by rfl) (.tmp 51) (.tmp 56) 31 41 (.agg #[(.int .i64 0), (.int .i64 0), (.int .i64 0), (.int .i64 0), (.bool false), (.bool false)]) 40 rfl Tryd.underlying31 info41 rfl (by decide) (by omega) v372 y371 ((rd_T33 l1 x7_1).f0) _ _ _ (fun _ => True) (fun _ => False) rfl rfl ?aO ?aR (fun _ _ h => h) (fun _ h => h.elim) ?aF ?aB ?aS ?aL ?_
            (case aR => repeat (first | exact (Kd.C_below HR374_0.out HB.out) | (with_reducible refine Kd.C_alloc ?_ _) | (with_reducible refine Kd.C_drewN ?_ _) | (with_reducible refine Kd.C_drew ?_)))
            (case aB => exact o23)
            (case aF => exact (fun _ _ => trivial))
            (case aO => exact (by (with_reducible repeat (first | apply Kd.R_alloc | apply Kd.R_drewN | apply Kd.R_drew)); exact HO373.out))
            (case aS => exact (below_size o23))
            (case aL => have := LMc17.out; omega)
            intro v376 w23 ho hb hg hat
            rw [← Ny375.out] at ho
            have HO377 := aW (ho)
            replace HB := aW (hb)
            replace HI364 := aW (IsS65.grownR o1 hg (by (with_reducible repeat (first | apply Kd.R_alloc | apply Kd.R_drewN | apply Kd.R_drew)); exact HO373.out))
            replace BK362 := aW (blk_grown (g := gb362) (o := .cells #[.int .i64 a0_0, .int .i64 a0_1, .int .i64 a0_2] 23 (0, 0)) o78 hg (Kd.R_ne HO373.out BK362.out (by decide)))
            clear HO373
            clear ho hb hg hat
            obtain ⟨Ao24, co24, eo24⟩ := Kd.R_slice HO377.out
            (first | subst eo24 | (injection eo24 with f1_ f2_ f3_; have f4_ := f1_.symm; have f5_ := f3_.symm; clear f1_ f2_ f3_; subst f4_; subst f5_))
            refine hK.out _ _ ⟨((HB.out.cell (World.block_lt_of_cell? w _ hw374_0)).trans hw374_0), ((HB.out.cell (World.block_lt_of_cell? w _ hw374_1)).trans hw374_1), ((HB.out.cell (World.block_lt_of_cell? w _ hw374_2)).trans hw374_2), ((HB.out.cell (World.block_lt_of_cell? w _ hw374_3)).trans hw374_3), ((HB.out.cell (World.block_lt_of_cell? w _ hw378_0)).trans hw378_0), ((HB.out.cell (World.block_lt_of_cell? w _ hw378_1)).trans hw378_1), ((HB.out.cell (World.block_lt_of_cell? w _ hw378_2)).trans hw378_2), ((HB.out.cell (World.block_lt_of_cell? w _ hw378_3)).trans hw378_3), ((HB.out.cell (World.block_lt_of_cell? w _ hw379_0)).trans hw379_0), ((HB.out.cell (World.block_lt_of_cell? w _ hw379_1)).trans hw379_1), ((HB.out.cell (World.block_lt_of_cell? w _ hw379_2)).trans hw379_2), ((HB.out.cell (World.block_lt_of_cell? w _ hw379_3)).trans hw379_3), ((HB.out.cell (World.block_lt_of_cell? w _ hw380_0)).trans hw380_0), ((HB.out.cell (World.block_lt_of_cell? w _ hw380_1)).trans hw380_1), ((HB.out.cell (World.block_lt_of_cell? w _ hw380_2)).trans hw380_2), ((HB.out.cell (World.block_lt_of_cell? w _ hw380_3)).trans hw380_3)⟩ (fun hHeld => ?_)
            clear hK K
            refine no_ 57 ?_
            refine one_ (i := 23) (N := some 73) (bl 25 16777215) rfl rfl (one_of HT_.out (by kernel_rfl)) (by decide) (fun K hK => ?_)
            refine goes_ Tryd.func10 (by kernel_rfl) rfl #[.pointer (some ⟨g364, 0, none⟩), .slice Ao24 y375.length co24, .int .i64 ((rd_T33 l1 x7_1).f1), .int .i64 ((rd_T33 l1 x7_1).f2), .int .i64 ((rd_T33 l1 x7_1).f3)] (by rfl) rfl rfl o72 ?_
            with_reducible refine (gcc_Gcc_Hear.calls kj8 g364 x365000_1 _ _ y375 ((rd_T33 l1 x7_1).f1) ((rd_T33 l1 x7_1).f2) ((rd_T33 l1 x7_1).f3) t381 t382 w _ ?side1 ?side2 ?side3 ?side4 ?sideG A18.out).mono ?_
            (case sideG => exact o39)
            (case side1 => exact o3)
            (case side2 => exact o25)
            (case side3 => exact R41.own o85)
            (case side4 => exact (Kd.R_reads' HO377.out).2.1)
            rintro e w25 ⟨rfl, hi, hb, hk⟩
            refine ⟨_, rfl, ?_⟩
            replace HI364 := aW (hi)
            replace HB := aW (hb)
            replace HO377 := aW (R41.keep (w0 := w) (by first | exact hk | exact hk.1) o85)
            replace BK362 := aW (KS.blk (w0 := w) (by first | exact hk | exact hk.1) (g' := gb362) (o := .cells #[.int .i64 a0_0, .int .i64 a0_1, .int .i64 a0_2] 23 (0, 0)) o78 ⟨_, _, rfl, by unfold okT; decide⟩)
            (try clear hb)
            (try clear hb2)
            (try clear hk)
            (try clear hi)
            refine hK.out _ _ ⟨((HB.out.cell (World.block_lt_of_cell? w _ hw374_0)).trans hw374_0), ((HB.out.cell (World.block_lt_of_cell? w _ hw374_1)).trans hw374_1), ((HB.out.cell (World.block_lt_of_cell? w _ hw374_2)).trans hw374_2), ((HB.out.cell (World.block_lt_of_cell? w _ hw374_3)).trans hw374_3), ((HB.out.cell (World.block_lt_of_cell? w _ hw378_0)).trans hw378_0), ((HB.out.cell (World.block_lt_of_cell? w _ hw378_1)).trans hw378_1), ((HB.out.cell (World.block_lt_of_cell? w _ hw378_2)).trans hw378_2), ((HB.out.cell (World.block_lt_of_cell? w _ hw378_3)).trans hw378_3), ((HB.out.cell (World.block_lt_of_cell? w _ hw379_0)).trans hw379_0), ((HB.out.cell (World.block_lt_of_cell? w _ hw379_1)).trans hw379_1), ((HB.out.cell (World.block_lt_of_cell? w _ hw379_2)).trans hw379_2), ((HB.out.cell (World.block_lt_of_cell? w _ hw379_3)).trans hw379_3), ((HB.out.cell (World.block_lt_of_cell? w _ hw380_0)).trans hw380_0), ((HB.out.cell (World.block_lt_of_cell? w _ hw380_1)).trans hw380_1), ((HB.out.cell (World.block_lt_of_cell? w _ hw380_2)).trans hw380_2), ((HB.out.cell (World.block_lt_of_cell? w _ hw380_3)).trans hw380_3)⟩ (fun hHeld => ?_)
            clear hK K
            refine no_ 73 ?_
            refine pq_ 24 8 (bl 25 33554431) HT_ ?_
            refine done_ (done_of HT_.out (by kernel_rfl)) ?_
            go_upto_region 10 with (fail)
            go_cut [93] (fun v93 wc => ∃ (kq : Nat) (x93_18 : Bool) (x365000_18 : GccS), v93 = .bool x93_18 ∧ Aside0 (flywheellaw22_GccBounds.j2 kq l1 x7_1 x93_18 a0_0 a0_1 a0_2 x365000_18 = some r) ∧ Aside0 (kq ≤ kj8) ∧ Aside0 (wc.heap[gb362]? = some (.cells #[.int .i64 a0_0, .int .i64 a0_1, .int .i64 a0_2] 23 (0, 0))) ∧ Aside0 (IsS65 w wc g364 x365000_18) ∧ Aside0 (Below w.heap.size w wc))
            case first =>
             have H := HC19.out
             clear HC19
             by_cases c26 : t381 < a0_1
             ·rw [if_pos c26] at H
              have c26b0 : decide (t381 < a0_1) = true := decide_eq_true c26
              clear c26
              (first | rw [c26b0] | (simp only [i64_w, i32_w]; rw [c26b0]) | skip)
              have H' := aW H
              clear H
              have hnb27 := NB362_364.out
              have hnc27 := NB364_362.out
              obtain ⟨hcz28_0, hfz28_0, hcz28_1, hfz28_1, hcz28_2, hfz28_2⟩ := bp3 BK362.out
              go_wp2
              go_meet
              case rel => exact ⟨_, (true), (t382), o105, H', ⟨by have := HK1.out; have := HJ8.out; first | omega | exact Nat.le_refl _⟩, ⟨by (with_reducible repeat (first | refine blk_drewN ?_ _ | refine blk_drew ?_ | refine blk_alloc ?_ _)); exact BK362.out⟩, ⟨o2⟩, ⟨o24⟩⟩
             ·rw [if_neg c26] at H
              have c26b0 : decide (t381 < a0_1) = false := decide_eq_false c26
              clear c26
              (first | rw [c26b0] | (simp only [i64_w, i32_w]; rw [c26b0]) | skip)
              by_cases c29 : t381 > a0_2
              ·rw [if_pos c29] at H
               have c29b0 : decide (a0_2 < t381) = true := decide_eq_true c29
               clear c29
               have H' := aW H
               clear H
               have hnb30 := NB362_364.out
               have hnc30 := NB364_362.out
               obtain ⟨hcz31_0, hfz31_0, hcz31_1, hfz31_1, hcz31_2, hfz31_2⟩ := bp3 BK362.out
               go_wp2
               go_meet
               case rel => exact ⟨_, (true), (t382), o105, H', ⟨by have := HK1.out; have := HJ8.out; first | omega | exact Nat.le_refl _⟩, ⟨by (with_reducible repeat (first | refine blk_drewN ?_ _ | refine blk_drew ?_ | refine blk_alloc ?_ _)); exact BK362.out⟩, ⟨o2⟩, ⟨o24⟩⟩
              ·rw [if_neg c29] at H
               have c29b0 : decide (a0_2 < t381) = false := decide_eq_false c29
               clear c29
               replace H := Option.bind_eq_some_iff.mp H
               obtain ⟨⟨t383, t384⟩, A320, H⟩ := H
               replace H : (if t383 < 1000 then (flywheellaw22_GccBounds.j2 kj8 l1 x7_1 true a0_0 a0_1 a0_2 t384) else ((gcc_Gcc_Rtt.f t384).bind fun bt385 => (flywheellaw22_GccBounds.j2 kj8 l1 x7_1 (decide (bt385.1 > 1000000)) a0_0 a0_1 a0_2 bt385.2))) = some r := H
               have A32 := aW A320
               clear A320
               by_cases c33 : t383 < 1000
               ·rw [if_pos c33] at H
                have c33b0 : decide (t383 < 1000) = true := decide_eq_true c33
                clear c33
                have H' := aW H
                clear H
                have hnb34 := NB362_364.out
                have hnc34 := NB364_362.out
                obtain ⟨hcz35_0, hfz35_0, hcz35_1, hfz35_1, hcz35_2, hfz35_2⟩ := bp3 BK362.out
                go_wp2_with (first | (go_at_call 11; (with_reducible refine (gcc_Gcc_Rtt.calls g364 t382 t383 t384 w _ ?side1 ?side2 A32.out).mono ?_); (case side1 => exact o3); (case side2 => exact o25); rintro e w36 ⟨rfl, hi, hb, hk⟩; replace HI364 := aW (hi); replace HB := aW (hb); replace HO377 := aW (R41.keep (w0 := w) (by first | exact hk | exact hk.1) o85); replace BK362 := aW (KS.blk (w0 := w) (by first | exact hk | exact hk.1) (g' := gb362) (o := .cells #[.int .i64 a0_0, .int .i64 a0_1, .int .i64 a0_2] 23 (0, 0)) o78 ⟨_, _, rfl, by unfold okT; decide⟩); (try clear hb); (try clear hb2); (try clear hk); (try clear hi)))
                go_meet
                case rel => exact ⟨_, (true), (t384), o105, H', ⟨by have := HK1.out; have := HJ8.out; first | omega | exact Nat.le_refl _⟩, ⟨by (with_reducible repeat (first | refine blk_drewN ?_ _ | refine blk_drew ?_ | refine blk_alloc ?_ _)); exact BK362.out⟩, ⟨o2⟩, ⟨o24⟩⟩
               ·rw [if_neg c33] at H
                have c33b0 : decide (t383 < 1000) = false := decide_eq_false c33
                clear c33
                replace H := Option.bind_eq_some_iff.mp H
                obtain ⟨⟨t385, t386⟩, A370, H⟩ := H
                replace H : (flywheellaw22_GccBounds.j2 kj8 l1 x7_1 (decide (t385 > 1000000)) a0_0 a0_1 a0_2 t386) = some r := H
                have A37 := aW A370
                clear A370
                have H' := aW H
                clear H
                have hnb38 := NB362_364.out
                have hnc38 := NB364_362.out
                obtain ⟨hcz39_0, hfz39_0, hcz39_1, hfz39_1, hcz39_2, hfz39_2⟩ := bp3 BK362.out
                go_wp2_with (first | (go_at_call 11; (with_reducible refine (gcc_Gcc_Rtt.calls g364 t382 t383 t384 w _ ?side1 ?side2 A32.out).mono ?_); (case side1 => repeat (first | (with_reducible first | exact HI364.out | apply IsS65.alloc | apply IsS65.drewN | apply IsS65.drew | apply IsS65.set_0 | (first | refine IsS65.far41 ?_ (by repeat (first | exact TY.mk BK362.out | apply TY.set | apply TY.alloc | apply TY.drewN | apply TY.drew)) _ | refine IsS65.far23 ?_ (by repeat (first | exact TY.mk BK362.out | apply TY.set | apply TY.alloc | apply TY.drewN | apply TY.drew)) _)) | exact HI364.out)); (case side2 => repeat (first | (with_reducible first | exact HB.out | apply below_alloc | apply pw_below_drewN | apply below_drew1 | refine below_set ?_ (IsS65.ge HI364.out) | refine below_set ?_ GE362.out) | exact HB.out)); rintro e w40 ⟨rfl, hi, hb, hk⟩; replace HI364 := aW (hi); replace HB := aW (hb); replace HO377 := aW (R41.keep (w0 := w) (by first | exact hk | exact hk.1) o85); replace BK362 := aW (KS.blk (w0 := w) (by first | exact hk | exact hk.1) (g' := gb362) (o := .cells #[.int .i64 a0_0, .int .i64 a0_1, .int .i64 a0_2] 23 (0, 0)) o78 ⟨_, _, rfl, by unfold okT; decide⟩); (try clear hb); (try clear hb2); (try clear hk); (try clear hi)) | (go_at_call 11; (with_reducible refine (gcc_Gcc_Rtt.calls g364 t384 t385 t386 w _ ?side1 ?side2 A37.out).mono ?_); (case side1 => repeat (first | (with_reducible first | exact HI364.out | apply IsS65.alloc | apply IsS65.drewN | apply IsS65.drew | apply IsS65.set_0 | (first | refine IsS65.far41 ?_ (by repeat (first | exact TY.mk BK362.out | apply TY.set | apply TY.alloc | apply TY.drewN | apply TY.drew)) _ | refine IsS65.far23 ?_ (by repeat (first | exact TY.mk BK362.out | apply TY.set | apply TY.alloc | apply TY.drewN | apply TY.drew)) _)) | exact HI364.out)); (case side2 => repeat (first | (with_reducible first | exact HB.out | apply below_alloc | apply pw_below_drewN | apply below_drew1 | refine below_set ?_ (IsS65.ge HI364.out) | refine below_set ?_ GE362.out) | exact HB.out)); rintro e w41 ⟨rfl, hi, hb, hk⟩; replace HI364 := aW (hi); replace HB := aW (hb); replace HO377 := aW (R41.keep (w0 := w) (by first | exact hk | exact hk.1) o85); replace BK362 := aW (KS.blk (w0 := w) (by first | exact hk | exact hk.1) (g' := gb362) (o := .cells #[.int .i64 a0_0, .int .i64 a0_1, .int .i64 a0_2] 23 (0, 0)) o78 ⟨_, _, rfl, by unfold okT; decide⟩); (try clear hb); (try clear hb2); (try clear hk); (try clear hi)))
                go_meet
                case rel => exact ⟨_, (decide (t385 > 1000000)), (t386), o105, H', ⟨by have := HK1.out; have := HJ8.out; first | omega | exact Nat.le_refl _⟩, ⟨by (with_reducible repeat (first | refine blk_drewN ?_ _ | refine blk_drew ?_ | refine blk_alloc ?_ _)); exact BK362.out⟩, ⟨o2⟩, ⟨o24⟩⟩
            case rest =>
             clear HC19
             try clear c1
             try clear c2
             try clear p2
             try clear c3
             try clear c3b0
             try clear p3
             try clear q3
             try clear hx3
             try clear c5
             try clear c5b0
             try clear c5b1
             try clear c7
             try clear c9
             try clear c10
             try clear c10b0
             try clear c11
             try clear c12
             try clear c12b0
             try clear c13
             try clear c13b0
             try clear c14
             try clear c14b0
             try clear c14b1
             try clear c17
             try clear c26
             try clear c26b0
             try clear c27
             try clear c29
             try clear c29b0
             try clear c30
             try clear c33
             try clear c33b0
             try clear c34
             try clear c36
             try clear p36
             try clear q36
             try clear hx36
             try clear c37
             try clear p37
             try clear q37
             try clear hx37
             try clear c38
             try clear p38
             try clear q38
             try clear hx38
             try clear hcz28_0
             try clear hcz28_1
             try clear hcz28_2
             try clear hcz31_0
             try clear hcz31_1
             try clear hcz31_2
             try clear hcz35_0
             try clear hcz35_1
             try clear hcz35_2
             try clear hcz39_0
             try clear hcz39_1
             try clear hcz39_2
             try clear hcz7_0
             try clear hcz7_1
             try clear hcz7_2
             try clear hfz28_0
             try clear hfz28_1
             try clear hfz28_2
             try clear hfz31_0
             try clear hfz31_1
             try clear hfz31_2
             try clear hfz35_0
             try clear hfz35_1
             try clear hfz35_2
             try clear hfz39_0
             try clear hfz39_1
             try clear hfz39_2
             try clear hfz7_0
             try clear hfz7_1
             try clear hfz7_2
             try clear hx369_0
             try clear hx369_1
             try clear hx369_2
             try clear hx369_3
             try clear hx374_0
             try clear hx374_1
             try clear hx374_2
             try clear hx374_3
             try clear hx378_0
             try clear hx378_1
             try clear hx378_2
             try clear hx378_3
             try clear hx379_0
             try clear hx379_1
             try clear hx379_2
             try clear hx379_3
             try clear hx380_0
             try clear hx380_1
             try clear hx380_2
             try clear hx380_3
             try clear p2
             try clear p369
             try clear p374
             try clear p378
             try clear p379
             try clear p380
             try clear q369
             try clear q374
             try clear q378
             try clear q379
             try clear q380
             obtain ⟨kq, x93_18, x365000_18, rfl, HA, HJ18, BK362, HI364, HB⟩ := hcut
             cases kq with
             | zero => exact absurd HA.out (by simp [flywheellaw22_GccBounds.j2])
             | succ kj18 =>
              have H := HA.out
              clear HA
              simp only [flywheellaw22_GccBounds.j2] at H
              by_cases c42 : x93_18 = true
              ·subst c42
               have H1 : (some false) = some r := by rw [if_pos rfl] at H; exact H
               clear H
               have H := H1
               clear H1
               obtain rfl := Option.some.inj H
               go_wp2
               go_ret
               exact ⟨o95, o24⟩
              ·replace c42 := Bool.eq_false_iff.mpr c42
               subst c42
               have H1 : (flywheellaw22_GccBounds.l0 kj18 l1 (wrap64 (x7_1 + 1)) a0_0 a0_1 a0_2 x365000_18) = some r := by rw [if_neg (show ¬ (false = true) by decide)] at H; exact H
               clear H
               have H := H1
               clear H1
               have H' := aW H
               clear H
               go_wp2
               go_roundg kj18
               case measure => have := HK1.out; have := HJ8.out; have := HJ18.out; omega
               case rel => exact ⟨(wrap64 (x7_1 + 1)), (x365000_18), o105, H', ⟨by have := HK1.out; have := HJ8.out; have := HJ18.out; omega⟩, ⟨by (with_reducible repeat (first | refine blk_drewN ?_ _ | refine blk_drew ?_ | refine blk_alloc ?_ _)); exact BK362.out⟩, ⟨o2⟩, ⟨o24⟩⟩
           ·rw [if_neg c17] at H
            exact absurd H (by simp)
         ·rw [if_neg c13] at H
          exact absurd H (by simp)
        ·rw [if_neg c12] at H
         exact absurd H (by simp)
       ·replace c11 := Bool.eq_false_iff.mpr c11
        subst c11
        have H1 : ((flywheellaw22_wakes.f kj8).bind fun t368 => (some t368)) = some r := by rw [if_neg (show ¬ (false = true) by decide)] at H; exact H
        clear H
        have H := H1
        clear H1
        obtain ⟨t368, A43, H⟩ := bw H
        replace H : (some t368) = some r := H
        obtain rfl := Option.some.inj H
        go_wp2_with (first | ((with_reducible refine gate_callee (f := 9) rfl ?_); refine gL_ 94 Tryd.func9 #[] ?_; (with_reducible refine (flywheellaw22_wakes.calls kj8  t368 _ ?sideG A43.out).mono ?_); (case sideG => exact o17); rintro e w44 ⟨rfl, hb⟩; refine ⟨_, rfl, ?_⟩; replace HB := aW (below_step o23 hb); replace HI364 := aW (IsS65.below o1 hb); replace BK362 := aW (blk_below (g := gb362) (o := .cells #[.int .i64 a0_0, .int .i64 a0_1, .int .i64 a0_2] 23 (0, 0)) o78 hb); (try clear hb); (try clear hb2); (try clear hk); (try clear hi)))
        go_ret
        exact ⟨o95, o24⟩
  ·rw [if_neg c5] at H
   have c5b0 : (t365 == 0) = false := beq_eq_false_iff_ne.mpr c5
   have c5b1 : (t365 != 0) = true := bne_iff_ne.mpr c5
   obtain ⟨t366, A45, H⟩ := bw H
   replace H : (if t366 = true then (some false) else ((flywheellaw22_wakes.f k).bind fun t367 => (some t367))) = some r := H
   by_cases c46 : t366 = true
   ·subst c46
    have H1 : (some false) = some r := by rw [if_pos rfl] at H; exact H
    clear H
    have H := H1
    clear H1
    obtain rfl := Option.some.inj H
    go_enter Tryd.func3, Tryd.ntmps3
    go_wp2_with (first | ((with_reducible refine gate_dst (N := 2) rfl ?_); refine box_event ?hg (N := 2) ?hd (cs := #[.int .i64 a0_0, .int .i64 a0_1, .int .i64 a0_2]) (t := 23) ?hr ?_; (case hd => rfl); (case hg => rfl); (case hr => first | (go_simp; done) | (go_simp; rfl)); intro gb362 hg w47 hbox hb; have GE362 := aW ((by rw [hg]; exact (below_size o76) : w.heap.size ≤ gb362)); have GW362 := aW ((by rw [hg]; exact (below_size o76) : w.heap.size ≤ gb362)); have BK362 := aW (hbox); replace HB := aW (below_step o76 hb); clear hb hbox hg; have hcz48_0 : w47.cell? ⟨gb362, 0, none⟩ = some (.int .i64 a0_0) := (blk_cell BK362.out 0).trans rfl; have hcz48_1 : w47.cell? ⟨gb362, 1, none⟩ = some (.int .i64 a0_1) := (blk_cell BK362.out 1).trans rfl; have hcz48_2 : w47.cell? ⟨gb362, 2, none⟩ = some (.int .i64 a0_2) := (blk_cell BK362.out 2).trans rfl; have hfz48_0 := blk_frozen BK362.out 0; have hfz48_1 := blk_frozen BK362.out 1; have hfz48_2 := blk_frozen BK362.out 2) | ((with_reducible refine gate_callee (f := 7) rfl ?_); refine gL_ 16 Tryd.func7 #[.int .i64 a0_0, .int .i64 a0_1, .int .i64 a0_2] ?_; (with_reducible refine (gcc_New.made.calls a0_0 a0_1 a0_2 t363 t365 _ _ bR A4.out).mono ?_); rintro e w49 ⟨g364, rfl, hi, hb, hb2⟩; refine ⟨_, rfl, ?_⟩; have NB362_364 := aW (Ne.symm (IsS65.ne_blk hi (blk_below (g := gb362) (o := .cells #[.int .i64 a0_0, .int .i64 a0_1, .int .i64 a0_2] 23 (0, 0)) o78 hb2) (by decide))); have NB364_362 := aW (IsS65.ne_blk hi (blk_below (g := gb362) (o := .cells #[.int .i64 a0_0, .int .i64 a0_1, .int .i64 a0_2] 23 (0, 0)) o78 hb2) (by decide)); have HI364 := aW ((IsS65.rebase hi (below_size o58))); replace HB := aW (below_step o58 hb2); replace BK362 := aW (blk_below (g := gb362) (o := .cells #[.int .i64 a0_0, .int .i64 a0_1, .int .i64 a0_2] 23 (0, 0)) o78 hb2); (try clear hb); (try clear hb2); (try clear hk); (try clear hi); have hnb50 := NB362_364.out; have hnc50 := NB364_362.out; have hcz51_0 : w49.cell? ⟨gb362, 0, none⟩ = some (.int .i64 a0_0) := (blk_cell BK362.out 0).trans rfl; have hcz51_1 : w49.cell? ⟨gb362, 1, none⟩ = some (.int .i64 a0_1) := (blk_cell BK362.out 1).trans rfl; have hcz51_2 : w49.cell? ⟨gb362, 2, none⟩ = some (.int .i64 a0_2) := (blk_cell BK362.out 2).trans rfl; have hfz51_0 := blk_frozen BK362.out 0; have hfz51_1 := blk_frozen BK362.out 1; have hfz51_2 := blk_frozen BK362.out 2) | ((with_reducible refine gate_callee (f := 8) rfl ?_); refine gL_ 27 Tryd.func8 #[.int .i64 a0_0, .int .i64 a0_1, .int .i64 a0_2] ?_; (with_reducible refine (flywheelref19_Rates.calls a0_0 a0_1 a0_2 true _ A45.out).mono ?_); rintro e w' ⟨rfl, ⟨nd, rfl⟩⟩; refine ⟨_, rfl, ?_⟩))
    go_ret
    exact ⟨o95, o24⟩
   ·replace c46 := Bool.eq_false_iff.mpr c46
    subst c46
    have H1 : ((flywheellaw22_wakes.f k).bind fun t367 => (some t367)) = some r := by rw [if_neg (show ¬ (false = true) by decide)] at H; exact H
    clear H
    have H := H1
    clear H1
    obtain ⟨t367, A52, H⟩ := bw H
    replace H : (some t367) = some r := H
    obtain rfl := Option.some.inj H
    go_enter Tryd.func3, Tryd.ntmps3
    go_wp2_with (first | ((with_reducible refine gate_dst (N := 2) rfl ?_); refine box_event ?hg (N := 2) ?hd (cs := #[.int .i64 a0_0, .int .i64 a0_1, .int .i64 a0_2]) (t := 23) ?hr ?_; (case hd => rfl); (case hg => rfl); (case hr => first | (go_simp; done) | (go_simp; rfl)); intro gb362 hg w53 hbox hb; have GE362 := aW ((by rw [hg]; exact (below_size o76) : w.heap.size ≤ gb362)); have GW362 := aW ((by rw [hg]; exact (below_size o76) : w.heap.size ≤ gb362)); have BK362 := aW (hbox); replace HB := aW (below_step o76 hb); clear hb hbox hg; have hcz54_0 : w53.cell? ⟨gb362, 0, none⟩ = some (.int .i64 a0_0) := (blk_cell BK362.out 0).trans rfl; have hcz54_1 : w53.cell? ⟨gb362, 1, none⟩ = some (.int .i64 a0_1) := (blk_cell BK362.out 1).trans rfl; have hcz54_2 : w53.cell? ⟨gb362, 2, none⟩ = some (.int .i64 a0_2) := (blk_cell BK362.out 2).trans rfl; have hfz54_0 := blk_frozen BK362.out 0; have hfz54_1 := blk_frozen BK362.out 1; have hfz54_2 := blk_frozen BK362.out 2) | ((with_reducible refine gate_callee (f := 7) rfl ?_); refine gL_ 16 Tryd.func7 #[.int .i64 a0_0, .int .i64 a0_1, .int .i64 a0_2] ?_; (with_reducible refine (gcc_New.made.calls a0_0 a0_1 a0_2 t363 t365 _ _ bR A4.out).mono ?_); rintro e w55 ⟨g364, rfl, hi, hb, hb2⟩; refine ⟨_, rfl, ?_⟩; have NB362_364 := aW (Ne.symm (IsS65.ne_blk hi (blk_below (g := gb362) (o := .cells #[.int .i64 a0_0, .int .i64 a0_1, .int .i64 a0_2] 23 (0, 0)) o78 hb2) (by decide))); have NB364_362 := aW (IsS65.ne_blk hi (blk_below (g := gb362) (o := .cells #[.int .i64 a0_0, .int .i64 a0_1, .int .i64 a0_2] 23 (0, 0)) o78 hb2) (by decide)); have HI364 := aW ((IsS65.rebase hi (below_size o58))); replace HB := aW (below_step o58 hb2); replace BK362 := aW (blk_below (g := gb362) (o := .cells #[.int .i64 a0_0, .int .i64 a0_1, .int .i64 a0_2] 23 (0, 0)) o78 hb2); (try clear hb); (try clear hb2); (try clear hk); (try clear hi); have hnb56 := NB362_364.out; have hnc56 := NB364_362.out; have hcz57_0 : w55.cell? ⟨gb362, 0, none⟩ = some (.int .i64 a0_0) := (blk_cell BK362.out 0).trans rfl; have hcz57_1 : w55.cell? ⟨gb362, 1, none⟩ = some (.int .i64 a0_1) := (blk_cell BK362.out 1).trans rfl; have hcz57_2 : w55.cell? ⟨gb362, 2, none⟩ = some (.int .i64 a0_2) := (blk_cell BK362.out 2).trans rfl; have hfz57_0 := blk_frozen BK362.out 0; have hfz57_1 := blk_frozen BK362.out 1; have hfz57_2 := blk_frozen BK362.out 2) | ((with_reducible refine gate_callee (f := 8) rfl ?_); refine gL_ 27 Tryd.func8 #[.int .i64 a0_0, .int .i64 a0_1, .int .i64 a0_2] ?_; (with_reducible refine (flywheelref19_Rates.calls a0_0 a0_1 a0_2 false _ A45.out).mono ?_); rintro e w' ⟨rfl, ⟨nd, rfl⟩⟩; refine ⟨_, rfl, ?_⟩) | (go_at_call 9; (with_reducible refine (flywheellaw22_wakes.calls k  t367 _ ?sideG A52.out).mono ?_); (case sideG => exact o17); rintro e w58 ⟨rfl, hb⟩; replace HB := aW (below_step o23 hb); replace HI364 := aW (IsS65.below o1 hb); replace BK362 := aW (blk_below (g := gb362) (o := .cells #[.int .i64 a0_0, .int .i64 a0_1, .int .i64 a0_2] 23 (0, 0)) o78 hb); (try clear hb); (try clear hb2); (try clear hk); (try clear hi)))
    go_ret
    exact ⟨o95, o24⟩
 ·rw [if_neg c3] at H
  have c3b0 : (gcc_New.made.f a0_0 a0_1 a0_2).isSome = false := by simpa using c3
  clear c3
  obtain ⟨t387, A59, H⟩ := bw H
  replace H : (if t387 = 0 then (flywheellaw22_GccBounds.l5000 k l1 0) else ((flywheelref19_Rates.f a0_0 a0_1 a0_2).bind fun t388 => (if t388 = true then (some false) else ((flywheellaw22_wakes.f k).bind fun t389 => (some t389))))) = some r := H
  by_cases c60 : t387 = 0
  ·rw [if_pos c60] at H
   have c60b0 : (t387 == 0) = true := beq_iff_eq.mpr c60
   have c60b1 : (t387 != 0) = false := bne_eq_false_iff_eq.mpr c60
   clear c60
   have H' := aW H
   clear H
   go_enter Tryd.func3, Tryd.ntmps3
   go_wp2_with (first | ((with_reducible refine gate_dst (N := 2) rfl ?_); refine box_event ?hg (N := 2) ?hd (cs := #[.int .i64 a0_0, .int .i64 a0_1, .int .i64 a0_2]) (t := 23) ?hr ?_; (case hd => rfl); (case hg => rfl); (case hr => first | (go_simp; done) | (go_simp; rfl)); intro gb362 hg w61 hbox hb; have GE362 := aW ((by rw [hg]; exact (below_size o76) : w.heap.size ≤ gb362)); have GW362 := aW ((by rw [hg]; exact (below_size o76) : w.heap.size ≤ gb362)); have BK362 := aW (hbox); replace HB := aW (below_step o76 hb); clear hb hbox hg; have hcz62_0 : w61.cell? ⟨gb362, 0, none⟩ = some (.int .i64 a0_0) := (blk_cell BK362.out 0).trans rfl; have hcz62_1 : w61.cell? ⟨gb362, 1, none⟩ = some (.int .i64 a0_1) := (blk_cell BK362.out 1).trans rfl; have hcz62_2 : w61.cell? ⟨gb362, 2, none⟩ = some (.int .i64 a0_2) := (blk_cell BK362.out 2).trans rfl; have hfz62_0 := blk_frozen BK362.out 0; have hfz62_1 := blk_frozen BK362.out 1; have hfz62_2 := blk_frozen BK362.out 2) | ((with_reducible refine gate_callee (f := 7) rfl ?_); refine gL_ 16 Tryd.func7 #[.int .i64 a0_0, .int .i64 a0_1, .int .i64 a0_2] ?_; (with_reducible refine (gcc_New.nil.calls a0_0 a0_1 a0_2 t387 _ A59.out).mono ?_); rintro e w63 ⟨rfl, hb⟩; refine ⟨_, rfl, ?_⟩; replace HB := aW (below_step o58 hb); replace BK362 := aW (blk_below (g := gb362) (o := .cells #[.int .i64 a0_0, .int .i64 a0_1, .int .i64 a0_2] 23 (0, 0)) o78 hb); (try clear hb); (try clear hb2); (try clear hk); (try clear hi)))
   go_loopg [7] k (fun kq v7 w' => ∃ (x7_1 : Int), v7 = .int .i64 x7_1 ∧ Aside0 (flywheellaw22_GccBounds.l5000 kq l1 x7_1 = some r) ∧ Aside0 (kq ≤ k) ∧ Aside0 (w'.heap[gb362]? = some (.cells #[.int .i64 a0_0, .int .i64 a0_1, .int .i64 a0_2] 23 (0, 0))) ∧ Aside0 (Below w.heap.size w w'))
   case atStart => exact ⟨(0), o105, H', ⟨Nat.le_refl _⟩, ⟨by (with_reducible repeat (first | refine blk_drewN ?_ _ | refine blk_drew ?_ | refine blk_alloc ?_ _)); exact BK362.out⟩, ⟨o61⟩⟩
   case round =>
    clear H'
    try clear c1
    try clear c2
    try clear p2
    try clear c3
    try clear c3b0
    try clear p3
    try clear q3
    try clear hx3
    try clear c4
    try clear c5
    try clear c5b0
    try clear c5b1
    try clear c6
    try clear p6
    try clear c7
    try clear c8
    try clear c9
    try clear c10
    try clear c10b0
    try clear c11
    try clear c12
    try clear c12b0
    try clear c13
    try clear c13b0
    try clear c14
    try clear c14b0
    try clear c14b1
    try clear c17
    try clear c26
    try clear c26b0
    try clear c27
    try clear c29
    try clear c29b0
    try clear c30
    try clear c33
    try clear c33b0
    try clear c34
    try clear c36
    try clear p36
    try clear q36
    try clear hx36
    try clear c37
    try clear p37
    try clear q37
    try clear hx37
    try clear c38
    try clear p38
    try clear q38
    try clear hx38
    try clear c42
    try clear c46
    try clear c50
    try clear c56
    try clear c60
    try clear c60b0
    try clear c60b1
    try clear hcz28_0
    try clear hcz28_1
    try clear hcz28_2
    try clear hcz31_0
    try clear hcz31_1
    try clear hcz31_2
    try clear hcz35_0
    try clear hcz35_1
    try clear hcz35_2
    try clear hcz39_0
    try clear hcz39_1
    try clear hcz39_2
    try clear hcz48_0
    try clear hcz48_1
    try clear hcz48_2
    try clear hcz51_0
    try clear hcz51_1
    try clear hcz51_2
    try clear hcz54_0
    try clear hcz54_1
    try clear hcz54_2
    try clear hcz57_0
    try clear hcz57_1
    try clear hcz57_2
    try clear hcz62_0
    try clear hcz62_1
    try clear hcz62_2
    try clear hcz7_0
    try clear hcz7_1
    try clear hcz7_2
    try clear hfz28_0
    try clear hfz28_1
    try clear hfz28_2
    try clear hfz31_0
    try clear hfz31_1
    try clear hfz31_2
    try clear hfz35_0
    try clear hfz35_1
    try clear hfz35_2
    try clear hfz39_0
    try clear hfz39_1
    try clear hfz39_2
    try clear hfz48_0
    try clear hfz48_1
    try clear hfz48_2
    try clear hfz51_0
    try clear hfz51_1
    try clear hfz51_2
    try clear hfz54_0
    try clear hfz54_1
    try clear hfz54_2
    try clear hfz57_0
    try clear hfz57_1
    try clear hfz57_2
    try clear hfz62_0
    try clear hfz62_1
    try clear hfz62_2
    try clear hfz7_0
    try clear hfz7_1
    try clear hfz7_2
    try clear hx369_0
    try clear hx369_1
    try clear hx369_2
    try clear hx369_3
    try clear hx374_0
    try clear hx374_1
    try clear hx374_2
    try clear hx374_3
    try clear hx378_0
    try clear hx378_1
    try clear hx378_2
    try clear hx378_3
    try clear hx379_0
    try clear hx379_1
    try clear hx379_2
    try clear hx379_3
    try clear hx380_0
    try clear hx380_1
    try clear hx380_2
    try clear hx380_3
    try clear p2
    try clear p3
    try clear p36
    try clear p369
    try clear p37
    try clear p374
    try clear p378
    try clear p379
    try clear p38
    try clear p380
    try clear q3
    try clear q36
    try clear q369
    try clear q37
    try clear q374
    try clear q378
    try clear q379
    try clear q38
    try clear q380
    obtain ⟨x7_1, rfl, HA, HK1, BK362, HB⟩ := hrel
    cases gk with
    | zero => exact absurd HA.out (by simp [flywheellaw22_GccBounds.l5000])
    | succ k1 =>
     have H := HA.out
     clear HA
     simp only [flywheellaw22_GccBounds.l5000] at H
     have HC64 := aW H
     clear H
     go_upto_region 5 with (fail)
     go_cut [39] (fun v39 wc => ∃ (kq : Nat) (x39_63 : Bool), v39 = .bool x39_63 ∧ Aside0 (flywheellaw22_GccBounds.j4 kq l1 x7_1 x39_63 = some r) ∧ Aside0 (kq ≤ k1) ∧ Aside0 (wc.heap[gb362]? = some (.cells #[.int .i64 a0_0, .int .i64 a0_1, .int .i64 a0_2] 23 (0, 0))) ∧ Aside0 (Below w.heap.size w wc))
     case first =>
      have H := HC64.out
      clear HC64
      by_cases c65 : x7_1 < (l1.length : Int)
      ·rw [if_pos c65] at H
       have c65b0 : decide (x7_1 < (l1.length : Int)) = true := decide_eq_true c65
       clear c65
       (first | rw [c65b0] | (simp only [i64_w, i32_w]; rw [c65b0]) | skip)
       have H' := aW H
       clear H
       go_wp2
       go_meet
       case rel => exact ⟨_, (decide (x7_1 < 60)), o105, H', ⟨o102⟩, ⟨by (with_reducible repeat (first | refine blk_drewN ?_ _ | refine blk_drew ?_ | refine blk_alloc ?_ _)); exact BK362.out⟩, ⟨o61⟩⟩
      ·rw [if_neg c65] at H
       have c65b0 : decide (x7_1 < (l1.length : Int)) = false := decide_eq_false c65
       clear c65
       (first | rw [c65b0] | (simp only [i64_w, i32_w]; rw [c65b0]) | skip)
       have H' := aW H
       clear H
       go_wp2
       go_meet
       case rel => exact ⟨_, (false), o105, H', ⟨o102⟩, ⟨by (with_reducible repeat (first | refine blk_drewN ?_ _ | refine blk_drew ?_ | refine blk_alloc ?_ _)); exact BK362.out⟩, ⟨o61⟩⟩
     case rest =>
      clear HC64
      try clear c1
      try clear c2
      try clear p2
      try clear c3
      try clear c3b0
      try clear p3
      try clear q3
      try clear hx3
      try clear c4
      try clear c5
      try clear c5b0
      try clear c5b1
      try clear c6
      try clear p6
      try clear c7
      try clear c8
      try clear c9
      try clear c10
      try clear c10b0
      try clear c11
      try clear c12
      try clear c12b0
      try clear c13
      try clear c13b0
      try clear c14
      try clear c14b0
      try clear c14b1
      try clear c17
      try clear c26
      try clear c26b0
      try clear c27
      try clear c29
      try clear c29b0
      try clear c30
      try clear c33
      try clear c33b0
      try clear c34
      try clear c36
      try clear p36
      try clear q36
      try clear hx36
      try clear c37
      try clear p37
      try clear q37
      try clear hx37
      try clear c38
      try clear p38
      try clear q38
      try clear hx38
      try clear c42
      try clear c46
      try clear c50
      try clear c56
      try clear c60
      try clear c60b0
      try clear c60b1
      try clear p64
      try clear c65
      try clear c65b0
      try clear hcz28_0
      try clear hcz28_1
      try clear hcz28_2
      try clear hcz31_0
      try clear hcz31_1
      try clear hcz31_2
      try clear hcz35_0
      try clear hcz35_1
      try clear hcz35_2
      try clear hcz39_0
      try clear hcz39_1
      try clear hcz39_2
      try clear hcz48_0
      try clear hcz48_1
      try clear hcz48_2
      try clear hcz51_0
      try clear hcz51_1
      try clear hcz51_2
      try clear hcz54_0
      try clear hcz54_1
      try clear hcz54_2
      try clear hcz57_0
      try clear hcz57_1
      try clear hcz57_2
      try clear hcz62_0
      try clear hcz62_1
      try clear hcz62_2
      try clear hcz7_0
      try clear hcz7_1
      try clear hcz7_2
      try clear hfz28_0
      try clear hfz28_1
      try clear hfz28_2
      try clear hfz31_0
      try clear hfz31_1
      try clear hfz31_2
      try clear hfz35_0
      try clear hfz35_1
      try clear hfz35_2
      try clear hfz39_0
      try clear hfz39_1
      try clear hfz39_2
      try clear hfz48_0
      try clear hfz48_1
      try clear hfz48_2
      try clear hfz51_0
      try clear hfz51_1
      try clear hfz51_2
      try clear hfz54_0
      try clear hfz54_1
      try clear hfz54_2
      try clear hfz57_0
      try clear hfz57_1
      try clear hfz57_2
      try clear hfz62_0
      try clear hfz62_1
      try clear hfz62_2
      try clear hfz7_0
      try clear hfz7_1
      try clear hfz7_2
      try clear hx369_0
      try clear hx369_1
      try clear hx369_2
      try clear hx369_3
      try clear hx374_0
      try clear hx374_1
      try clear hx374_2
      try clear hx374_3
      try clear hx378_0
      try clear hx378_1
      try clear hx378_2
      try clear hx378_3
      try clear hx379_0
      try clear hx379_1
      try clear hx379_2
      try clear hx379_3
      try clear hx380_0
      try clear hx380_1
      try clear hx380_2
      try clear hx380_3
      try clear p2
      try clear p3
      try clear p36
      try clear p369
      try clear p37
      try clear p374
      try clear p378
      try clear p379
      try clear p38
      try clear p380
      try clear p6
      try clear q3
      try clear q36
      try clear q369
      try clear q37
      try clear q374
      try clear q378
      try clear q379
      try clear q38
      try clear q380
      obtain ⟨kq, x39_63, rfl, HA, HJ63, BK362, HB⟩ := hcut
      cases kq with
      | zero => exact absurd HA.out (by simp [flywheellaw22_GccBounds.j4])
      | succ kj63 =>
       have H := HA.out
       clear HA
       simp only [flywheellaw22_GccBounds.j4] at H
       by_cases c66 : x39_63 = true
       ·subst c66
        have H1 : (if 0 ≤ x7_1 then (if x7_1 < (l1.length : Int) then (if (((rd_T33 l1 x7_1).f0).length : Int) > 300 then ((flywheellaw22_wakes.f kj63).bind fun t392 => (some t392)) else (if (([] : List (S41))).length + ((rd_T33 l1 x7_1).f0).length < 3518437208883 then (none) else (none))) else (none)) else (none)) = some r := by rw [if_pos rfl] at H; exact H
        clear H
        have H := H1
        clear H1
        by_cases c67 : 0 ≤ x7_1
        ·rw [if_pos c67] at H
         have c67b0 : decide (0 ≤ x7_1) = true := decide_eq_true c67
         clear c67
         by_cases c68 : x7_1 < (l1.length : Int)
         ·rw [if_pos c68] at H
          have c68b0 : decide (x7_1 < (l1.length : Int)) = true := decide_eq_true c68
          clear c68
          by_cases c69 : (((rd_T33 l1 x7_1).f0).length : Int) > 300
          ·rw [if_pos c69] at H
           have c69b0 : decide (300 < (((rd_T33 l1 x7_1).f0).length : Int)) = true := decide_eq_true c69
           have c69b1 : decide (300 < ((rd_T33 l1 x7_1).f0).length) = true := decide_eq_true (by omega)
           clear c69
           obtain ⟨t392, A70, H⟩ := bw H
           replace H : (some t392) = some r := H
           obtain rfl := Option.some.inj H
           have p391 : 0 ≤ (x7_1 : Int) := of_decide_eq_true o104
           have q391 : x7_1 < (l1.length : Int) := of_decide_eq_true o104
           obtain ⟨ad391, A391_0, c391_0, e391, hx391_0, hx391_1, hx391_2, hx391_3, hl391_0, hi391_0⟩ := at_T33 HR1.out x7_1 p391 q391
           cases e391
           replace hx391_0 := (HB.out.cell (World.block_lt_of_cell? w _ hx391_0)).trans hx391_0
           replace hx391_1 := (HB.out.cell (World.block_lt_of_cell? w _ hx391_1)).trans hx391_1
           replace hx391_2 := (HB.out.cell (World.block_lt_of_cell? w _ hx391_2)).trans hx391_2
           replace hx391_3 := (HB.out.cell (World.block_lt_of_cell? w _ hx391_3)).trans hx391_3
           have HR391_0 := aW hi391_0
           have HC391_0 := aW hl391_0
           clear hi391_0 hl391_0
           replace p391 := eq_true p391
           replace q391 := eq_true q391
           go_wp2_with (first | ((with_reducible refine gate_callee (f := 9) rfl ?_); refine gL_ 49 Tryd.func9 #[] ?_; (with_reducible refine (flywheellaw22_wakes.calls kj63  t392 _ ?sideG A70.out).mono ?_); (case sideG => exact o22); rintro e w71 ⟨rfl, hb⟩; refine ⟨_, rfl, ?_⟩; replace HB := aW (below_step o58 hb); replace BK362 := aW (blk_below (g := gb362) (o := .cells #[.int .i64 a0_0, .int .i64 a0_1, .int .i64 a0_2] 23 (0, 0)) o78 hb); (try clear hb); (try clear hb2); (try clear hk); (try clear hi)))
           go_ret
           exact ⟨o95, o61⟩
          ·rw [if_neg c69] at H
           have c69b0 : decide (300 < (((rd_T33 l1 x7_1).f0).length : Int)) = false := decide_eq_false c69
           have c69b1 : decide (300 < ((rd_T33 l1 x7_1).f0).length) = false := decide_eq_false (by omega)
           clear c69
           obtain ⟨y393, hy393⟩ : ∃ y_ : List (S41), y_ = (([] : List (S41))) := ⟨_, rfl⟩
           replace H : (if y393.length + ((rd_T33 l1 x7_1).f0).length < 3518437208883 then (none) else (none)) = some r := by first | (rw [hy393]; with_reducible exact H) | (have H2_ := (Option.bind_some _ _).symm.trans H; rw [hy393]; with_reducible exact H2_) | (have H2_ := (Option.bind_some _ _).symm.trans H; with_reducible exact H2_) | with_reducible exact H | (rw [hy393]; exact H) | exact H
           have Ny393 := aW hy393
           clear hy393
           by_cases c72 : y393.length + ((rd_T33 l1 x7_1).f0).length < 3518437208883
           ·rw [if_pos c72] at H
            have LMc72 := aW c72
            clear c72
            exact absurd H (by simp)
           ·rw [if_neg c72] at H
            exact absurd H (by simp)
         ·rw [if_neg c68] at H
          exact absurd H (by simp)
        ·rw [if_neg c67] at H
         exact absurd H (by simp)
       ·replace c66 := Bool.eq_false_iff.mpr c66
        subst c66
        have H1 : ((flywheellaw22_wakes.f kj63).bind fun t390 => (some t390)) = some r := by rw [if_neg (show ¬ (false = true) by decide)] at H; exact H
        clear H
        have H := H1
        clear H1
        obtain ⟨t390, A73, H⟩ := bw H
        replace H : (some t390) = some r := H
        obtain rfl := Option.some.inj H
        go_wp2_with (first | ((with_reducible refine gate_callee (f := 9) rfl ?_); refine gL_ 94 Tryd.func9 #[] ?_; (with_reducible refine (flywheellaw22_wakes.calls kj63  t390 _ ?sideG A73.out).mono ?_); (case sideG => exact o22); rintro e w74 ⟨rfl, hb⟩; refine ⟨_, rfl, ?_⟩; replace HB := aW (below_step o58 hb); replace BK362 := aW (blk_below (g := gb362) (o := .cells #[.int .i64 a0_0, .int .i64 a0_1, .int .i64 a0_2] 23 (0, 0)) o78 hb); (try clear hb); (try clear hb2); (try clear hk); (try clear hi)))
        go_ret
        exact ⟨o95, o61⟩
  ·rw [if_neg c60] at H
   have c60b0 : (t387 == 0) = false := beq_eq_false_iff_ne.mpr c60
   have c60b1 : (t387 != 0) = true := bne_iff_ne.mpr c60
   obtain ⟨t388, A75, H⟩ := bw H
   replace H : (if t388 = true then (some false) else ((flywheellaw22_wakes.f k).bind fun t389 => (some t389))) = some r := H
   by_cases c76 : t388 = true
   ·subst c76
    have H1 : (some false) = some r := by rw [if_pos rfl] at H; exact H
    clear H
    have H := H1
    clear H1
    obtain rfl := Option.some.inj H
    go_enter Tryd.func3, Tryd.ntmps3
    go_wp2_with (first | ((with_reducible refine gate_dst (N := 2) rfl ?_); refine box_event ?hg (N := 2) ?hd (cs := #[.int .i64 a0_0, .int .i64 a0_1, .int .i64 a0_2]) (t := 23) ?hr ?_; (case hd => rfl); (case hg => rfl); (case hr => first | (go_simp; done) | (go_simp; rfl)); intro gb362 hg w77 hbox hb; have GE362 := aW ((by rw [hg]; exact (below_size o76) : w.heap.size ≤ gb362)); have GW362 := aW ((by rw [hg]; exact (below_size o76) : w.heap.size ≤ gb362)); have BK362 := aW (hbox); replace HB := aW (below_step o76 hb); clear hb hbox hg; have hcz78_0 : w77.cell? ⟨gb362, 0, none⟩ = some (.int .i64 a0_0) := (blk_cell BK362.out 0).trans rfl; have hcz78_1 : w77.cell? ⟨gb362, 1, none⟩ = some (.int .i64 a0_1) := (blk_cell BK362.out 1).trans rfl; have hcz78_2 : w77.cell? ⟨gb362, 2, none⟩ = some (.int .i64 a0_2) := (blk_cell BK362.out 2).trans rfl; have hfz78_0 := blk_frozen BK362.out 0; have hfz78_1 := blk_frozen BK362.out 1; have hfz78_2 := blk_frozen BK362.out 2) | ((with_reducible refine gate_callee (f := 7) rfl ?_); refine gL_ 16 Tryd.func7 #[.int .i64 a0_0, .int .i64 a0_1, .int .i64 a0_2] ?_; (with_reducible refine (gcc_New.nil.calls a0_0 a0_1 a0_2 t387 _ A59.out).mono ?_); rintro e w79 ⟨rfl, hb⟩; refine ⟨_, rfl, ?_⟩; replace HB := aW (below_step o58 hb); replace BK362 := aW (blk_below (g := gb362) (o := .cells #[.int .i64 a0_0, .int .i64 a0_1, .int .i64 a0_2] 23 (0, 0)) o78 hb); (try clear hb); (try clear hb2); (try clear hk); (try clear hi); have hcz80_0 : w79.cell? ⟨gb362, 0, none⟩ = some (.int .i64 a0_0) := (blk_cell BK362.out 0).trans rfl; have hcz80_1 : w79.cell? ⟨gb362, 1, none⟩ = some (.int .i64 a0_1) := (blk_cell BK362.out 1).trans rfl; have hcz80_2 : w79.cell? ⟨gb362, 2, none⟩ = some (.int .i64 a0_2) := (blk_cell BK362.out 2).trans rfl; have hfz80_0 := blk_frozen BK362.out 0; have hfz80_1 := blk_frozen BK362.out 1; have hfz80_2 := blk_frozen BK362.out 2) | ((with_reducible refine gate_callee (f := 8) rfl ?_); refine gL_ 27 Tryd.func8 #[.int .i64 a0_0, .int .i64 a0_1, .int .i64 a0_2] ?_; (with_reducible refine (flywheelref19_Rates.calls a0_0 a0_1 a0_2 true _ A75.out).mono ?_); rintro e w' ⟨rfl, ⟨nd, rfl⟩⟩; refine ⟨_, rfl, ?_⟩))
    go_ret
    exact ⟨o95, o61⟩
   ·replace c76 := Bool.eq_false_iff.mpr c76
    subst c76
    have H1 : ((flywheellaw22_wakes.f k).bind fun t389 => (some t389)) = some r := by rw [if_neg (show ¬ (false = true) by decide)] at H; exact H
    clear H
    have H := H1
    clear H1
    obtain ⟨t389, A81, H⟩ := bw H
    replace H : (some t389) = some r := H
    obtain rfl := Option.some.inj H
    go_enter Tryd.func3, Tryd.ntmps3
    go_wp2_with (first | ((with_reducible refine gate_dst (N := 2) rfl ?_); refine box_event ?hg (N := 2) ?hd (cs := #[.int .i64 a0_0, .int .i64 a0_1, .int .i64 a0_2]) (t := 23) ?hr ?_; (case hd => rfl); (case hg => rfl); (case hr => first | (go_simp; done) | (go_simp; rfl)); intro gb362 hg w82 hbox hb; have GE362 := aW ((by rw [hg]; exact (below_size o76) : w.heap.size ≤ gb362)); have GW362 := aW ((by rw [hg]; exact (below_size o76) : w.heap.size ≤ gb362)); have BK362 := aW (hbox); replace HB := aW (below_step o76 hb); clear hb hbox hg; have hcz83_0 : w82.cell? ⟨gb362, 0, none⟩ = some (.int .i64 a0_0) := (blk_cell BK362.out 0).trans rfl; have hcz83_1 : w82.cell? ⟨gb362, 1, none⟩ = some (.int .i64 a0_1) := (blk_cell BK362.out 1).trans rfl; have hcz83_2 : w82.cell? ⟨gb362, 2, none⟩ = some (.int .i64 a0_2) := (blk_cell BK362.out 2).trans rfl; have hfz83_0 := blk_frozen BK362.out 0; have hfz83_1 := blk_frozen BK362.out 1; have hfz83_2 := blk_frozen BK362.out 2) | ((with_reducible refine gate_callee (f := 7) rfl ?_); refine gL_ 16 Tryd.func7 #[.int .i64 a0_0, .int .i64 a0_1, .int .i64 a0_2] ?_; (with_reducible refine (gcc_New.nil.calls a0_0 a0_1 a0_2 t387 _ A59.out).mono ?_); rintro e w84 ⟨rfl, hb⟩; refine ⟨_, rfl, ?_⟩; replace HB := aW (below_step o58 hb); replace BK362 := aW (blk_below (g := gb362) (o := .cells #[.int .i64 a0_0, .int .i64 a0_1, .int .i64 a0_2] 23 (0, 0)) o78 hb); (try clear hb); (try clear hb2); (try clear hk); (try clear hi); have hcz85_0 : w84.cell? ⟨gb362, 0, none⟩ = some (.int .i64 a0_0) := (blk_cell BK362.out 0).trans rfl; have hcz85_1 : w84.cell? ⟨gb362, 1, none⟩ = some (.int .i64 a0_1) := (blk_cell BK362.out 1).trans rfl; have hcz85_2 : w84.cell? ⟨gb362, 2, none⟩ = some (.int .i64 a0_2) := (blk_cell BK362.out 2).trans rfl; have hfz85_0 := blk_frozen BK362.out 0; have hfz85_1 := blk_frozen BK362.out 1; have hfz85_2 := blk_frozen BK362.out 2) | ((with_reducible refine gate_callee (f := 8) rfl ?_); refine gL_ 27 Tryd.func8 #[.int .i64 a0_0, .int .i64 a0_1, .int .i64 a0_2] ?_; (with_reducible refine (flywheelref19_Rates.calls a0_0 a0_1 a0_2 false _ A75.out).mono ?_); rintro e w' ⟨rfl, ⟨nd, rfl⟩⟩; refine ⟨_, rfl, ?_⟩) | (go_at_call 9; (with_reducible refine (flywheellaw22_wakes.calls k  t389 _ ?sideG A81.out).mono ?_); (case sideG => exact o22); rintro e w86 ⟨rfl, hb⟩; replace HB := aW (below_step o58 hb); replace BK362 := aW (blk_below (g := gb362) (o := .cells #[.int .i64 a0_0, .int .i64 a0_1, .int .i64 a0_2] 23 (0, 0)) o78 hb); (try clear hb); (try clear hb2); (try clear hk); (try clear hi)))
    go_ret
    exact ⟨o95, o61⟩
def flywheellaw22_GccBounds.Pure : Prop := ∀ (a0_0 : Int) (a0_1 : Int) (a0_2 : Int) (l1 : List (S33)), (Lit.int .i64 a0_0).wf = true → (Lit.int .i64 a0_1).wf = true → (Lit.int .i64 a0_2).wf = true → l1.length ≤ maxLen → l1.length * 48 ≤ 140737488351232 → (∀ x ∈ l1, (∀ z ∈ x.f0, (Lit.int .i64 z.f0.f0).wf = true ∧ (Lit.int .i64 z.f0.f1).wf = true ∧ (Lit.int .i64 z.f0.f2).wf = true ∧ (Lit.int .i64 z.f1).wf = true) ∧ (Lit.int .i64 x.f1).wf = true ∧ (Lit.int .i64 x.f2).wf = true ∧ (Lit.int .i64 x.f3).wf = true) → ∃ k, flywheellaw22_GccBounds.f k a0_0 a0_1 a0_2 l1 = some true
theorem flywheellaw22_GccBounds.walk (P : flywheellaw22_GccBounds.Pure) (a0_0 : Int) (a0_1 : Int) (a0_2 : Int) (A1 : Option Addr) (c1 : Nat) (l1 : List (S33)) (w : World) (w0_0 : (Lit.int .i64 a0_0).wf = true) (w0_1 : (Lit.int .i64 a0_1).wf = true) (w0_2 : (Lit.int .i64 a0_2).wf = true) (hm1 : l1.length ≤ maxLen) (y1 : l1.length * 48 ≤ 140737488351232) (hw1 : (∀ x ∈ l1, (∀ z ∈ x.f0, (Lit.int .i64 z.f0.f0).wf = true ∧ (Lit.int .i64 z.f0.f1).wf = true ∧ (Lit.int .i64 z.f0.f2).wf = true ∧ (Lit.int .i64 z.f1).wf = true) ∧ (Lit.int .i64 x.f1).wf = true ∧ (Lit.int .i64 x.f2).wf = true ∧ (Lit.int .i64 x.f3).wf = true)) (hr1 : Kd.C k33 w A1 l1.length l1) (hc1 : l1.length ≤ c1) (hG : GL w) :
  Calls Tryd.prog 3 #[.agg #[.int .i64 a0_0, .int .i64 a0_1, .int .i64 a0_2], .slice A1 l1.length c1] w fun e w' => e = .returned (.bool true) ∧ Below w.heap.size w w' := by
 obtain ⟨k, h⟩ := P a0_0 a0_1 a0_2 l1 w0_0 w0_1 w0_2 hm1 y1 hw1
 refine (flywheellaw22_GccBounds.calls k a0_0 a0_1 a0_2 A1 c1 l1 true w hr1 hc1 hG h).mono ?_
 rintro e w' ⟨rfl, hd⟩
 exact ⟨rfl, hd⟩
end Go.Proofs.YtphgeljglhjamaaDoor.P
end

section
namespace Go.Proofs.YtphgeljglhjamaaDoor.P
open Go.RowKit Go.Proofs.YtphgeljglhjamaaDoorW.PrintWords Go.Proofs.YtphgeljglhjamaaDoorW.PrintLast Go.Proofs.YtphgeljglhjamaaDoorW.PrintMore
attribute [local go_sem] max2_int min2_int max_two min_two max_three min_three max_four min_four
set_option linter.unusedVariables false
set_option linter.unusedSimpArgs false
end Go.Proofs.YtphgeljglhjamaaDoor.P
end

section
namespace Go.Proofs.YtphgeljglhjamaaDoor.P
open Go.RowKit Go.Proofs.YtphgeljglhjamaaDoorW.PrintWords Go.Proofs.YtphgeljglhjamaaDoorW.PrintLast Go.Proofs.YtphgeljglhjamaaDoorW.PrintMore
attribute [local go_sem] max2_int min2_int max_two min_two max_three min_three max_four min_four
set_option linter.unusedVariables false
set_option linter.unusedSimpArgs false
end Go.Proofs.YtphgeljglhjamaaDoor.P
end

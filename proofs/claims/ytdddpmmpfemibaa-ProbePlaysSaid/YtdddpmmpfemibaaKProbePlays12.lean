-- PUT TOGETHER by a program of this session: of the claim's texts, what is used
import Derived.Test.YtdddpmmpfemibaaKProbePlays7
import Derived.Test.YtdddpmmpfemibaaKProbePlays8
import Derived.Test.YtdddpmmpfemibaaKProbePlays9
import Derived.Test.YtdddpmmpfemibaaKProbePlays10
import Derived.Test.YtdddpmmpfemibaaKProbePlays11
import Derived.WalkArith
import Derived.KernelRfl
section
namespace Go.Proofs.Ytdddpmmpfemibaa.P
open Go.RowKit
set_option linter.unusedVariables false
set_option linter.unusedSimpArgs false
def md (a b c how : Int) : Int := (mdq a b c how).1
theorem isI64_of_wf {a : Int} (h : (Lit.int .i64 a).wf = true) : isI64 a := by
  simp only [Lit.wf, IntKind.min, IntKind.max, IntKind.signed, IntKind.bits, Bool.and_eq_true, decide_eq_true_eq] at h
  unfold isI64; simp at h; omega
theorem wrap64_id {a : Int} (h : isI64 a) : wrap64 a = a := by unfold isI64 at h; unfold wrap64; omega
theorem isI64_mk {a : Int} (h : -9223372036854775808 ≤ a) (h' : a ≤ 9223372036854775807) : isI64 a := ⟨h, h'⟩
theorem hold64_id (q : Int) (h : isI64 q) : hold64 q = (q, true) := by
  unfold isI64 at h; unfold hold64
  rw [if_neg (by omega), if_neg (by omega)]
theorem hold64_mono {p q : Int} (h : p ≤ q) : (hold64 p).1 ≤ (hold64 q).1 := by
  unfold hold64
  repeat' split
  all_goals (simp only []; omega)
theorem do_eq {a b c : Int} (how : Int) (ha : isI64 a) (hb : isI64 b) (hc : isI64 c) : muldiv_Do.f a b c how = some (md a b c how) := by
  unfold muldiv_Do.f muldiv_quotient_s.f
  rw [if_pos ⟨ha, hb, hc⟩]; rfl
theorem md_pos {a b c how : Int} (hc : 0 < c) (h1 : 1 ≤ how) (h3 : how ≤ 3) : md a b c how = (hold64 (rnd (a * b) c how)).1 := by
  unfold md mdq
  rw [if_neg (by omega), if_neg (by omega)]
theorem rnd_down (n d : Int) : rnd n d 1 = n / d := by unfold rnd; rw [if_pos rfl]
theorem md_down {a b c : Int} (hc : 0 < c) (h : isI64 (a * b / c)) : md a b c 1 = a * b / c := by
  rw [md_pos hc (by decide) (by decide), rnd_down, hold64_id _ h]
end Go.Proofs.Ytdddpmmpfemibaa.P
end

section
namespace Go.Proofs.Ytdddpmmpfemibaa.P
open Go.RowKit
theorem rdo_eq {a b c : Int} (how : Int) (ha : isI64 a) (hb : isI64 b) (hc : isI64 c) : flywheelref02_Do.f a b c how = some (md a b c how) := by
  unfold flywheelref02_Do.f flywheelref02_Did_s.f
  rw [if_pos ⟨ha, hb, hc⟩]; rfl
end Go.Proofs.Ytdddpmmpfemibaa.P
end

section
namespace Go.Proofs.Ytdddpmmpfemibaa.P
open Go.RowKit Go.Proofs.YtdddpmmpfemibaaW.PrintWords Go.Proofs.YtdddpmmpfemibaaW.PrintLast Go.Proofs.YtdddpmmpfemibaaW.PrintMore
set_option linter.unusedVariables false
set_option linter.unusedSimpArgs false
set_option maxRecDepth 100000 in
theorem wakes26 : flywheellaw26_wakes.f = some true := by kernel_rfl
theorem wnn (i : Nat) (h : i ≤ 4611686018427387904) : wrap64 ((i : Int) + 1) = ((i + 1 : Nat) : Int) := by rw [wrap64_id (isI64_mk (by omega) (by omega))]; omega
def rv (a t : Int) : Int := md a 8000000 t 1
theorem rate_eq {a t : Int} (ha : isI64 a) (ht : isI64 t) : units_Rate.f a t = some (rv a t) := by
  unfold units_Rate.f
  rw [do_eq 1 ha (isI64_mk (by decide) (by decide)) ht]
  rfl
theorem rv_pos {a t : Int} (ht : 0 < t) : rv a t = (hold64 (a * 8000000 / t)).1 := by
  unfold rv
  rw [md_pos ht (by decide) (by decide), rnd_down]
theorem rv_nonneg {a t : Int} (ht : 0 < t) (ha : 0 ≤ a) : 0 ≤ rv a t := by
  rw [rv_pos ht]
  have h : 0 ≤ a * 8000000 / t := Int.ediv_nonneg (by omega) (by omega)
  have := hold64_mono h
  have e : (hold64 0).1 = 0 := by decide
  omega
theorem bytes_eq {r : Int} (hr : isI64 r) : units_Bytes.f r 15000 = some (md r 15000 8000000 1) := by
  unfold units_Bytes.f units_rate_bytes.f
  rw [do_eq 1 hr (isI64_mk (by decide) (by decide)) (isI64_mk (by decide) (by decide))]
  rfl
def resv (asked count bytes fr to_ ls ea la fs : Int) : Int :=
  if count < 4 ∨ bytes < Int.tdiv asked 2 ∨ to_ ≤ fr ∨ la ≤ ea then 0 else mn (rv (bytes - ls) (to_ - fr)) (rv (bytes - fs) (la - ea))
def CI (asked count bytes fr to_ ls ea la fs : Int) : Prop :=
  0 ≤ asked ∧ asked ≤ 1000000000 ∧ 0 ≤ count ∧ count ≤ 1000000 ∧ 0 ≤ bytes ∧ bytes ≤ 1500000000 ∧ 0 ≤ fr ∧ fr ≤ 1125899906842624 ∧ 0 ≤ to_ ∧ to_ ≤ 1125899906842624 ∧ 0 ≤ ls ∧ ls ≤ bytes ∧ -1125899906842624 ≤ ea ∧ ea ≤ 1125899906842624 ∧ -1125899906842624 ≤ la ∧ la ≤ 1125899906842624 ∧ 0 ≤ fs ∧ fs ≤ bytes
theorem result_eq {rate left asked count bytes fr to_ ls ea la fs : Int} (k : Nat) (hk : 1 ≤ k) (h : CI asked count bytes fr to_ ls ea la fs) :
    probe_cluster_result.f k rate asked left count bytes fr to_ ls ea la fs = some (resv asked count bytes fr to_ ls ea la fs, rate, asked, left, count, bytes, fr, to_, ls, ea, la, fs) := by
  obtain ⟨k, rfl⟩ : ∃ j, k = j + 1 := ⟨k - 1, by omega⟩
  unfold CI at h
  have ht : 0 ≤ Int.tdiv asked 2 ∧ Int.tdiv asked 2 ≤ asked := by
    rw [Int.tdiv_eq_ediv_of_nonneg (by omega)]; omega
  unfold probe_cluster_result.f resv
  rw [wrap64_id (a := Int.tdiv asked 2) (isI64_mk (by omega) (by omega))]
  simp only [probe_cluster_result.j0, if_true]
  by_cases c1 : count < 4
  · rw [if_pos c1, if_pos (.inl c1)]
  rw [if_neg c1]
  by_cases c2 : bytes < Int.tdiv asked 2
  · rw [if_pos c2, if_pos (.inr (.inl c2))]
  rw [if_neg c2]
  by_cases c3 : to_ ≤ fr
  · rw [if_pos c3, if_pos (.inr (.inr (.inl c3)))]
  rw [if_neg c3]
  by_cases c4 : la ≤ ea
  · rw [decide_eq_true c4, if_pos rfl, if_pos (.inr (.inr (.inr c4)))]
  rw [decide_eq_false c4, if_neg (by simp), if_neg (by omega), wrap64_id (a := bytes - ls) (isI64_mk (by omega) (by omega)), wrap64_id (a := to_ - fr) (isI64_mk (by omega) (by omega)), wrap64_id (a := bytes - fs) (isI64_mk (by omega) (by omega)), wrap64_id (a := la - ea) (isI64_mk (by omega) (by omega)),
    rate_eq (isI64_mk (by omega) (by omega)) (isI64_mk (by omega) (by omega)), rate_eq (isI64_mk (by omega) (by omega)) (isI64_mk (by omega) (by omega))]
  rfl
def t_to (count to_ a : Int) : Int := if count = 0 ∨ to_ ≤ a then a else to_
def t_ls (count to_ ls a s : Int) : Int := if count = 0 ∨ to_ ≤ a then s else ls
def t_ea (count ea c : Int) : Int := if count = 0 ∨ c < ea then c else ea
def t_fs (count ea fs c s : Int) : Int := if count = 0 ∨ c < ea then s else fs
def t_fr (count fr a : Int) : Int := mn (if count = 0 then a else fr) a
def t_la (count la c : Int) : Int := mx (if count = 0 then c else la) c
theorem CI.next {asked count bytes fr to_ ls ea la fs s a c : Int} (h : CI asked count bytes fr to_ ls ea la fs) (hc : count < 1000000) (hb : bytes ≤ 1499998500) (s1 : 1 ≤ s) (s2 : s ≤ 1500) (a1 : 0 ≤ a) (a2 : a ≤ 1125899906842624) (c1 : -1125899906842624 ≤ c) (c2 : c ≤ 1125899906842624) :
    CI asked (count + 1) (bytes + s) (t_fr count fr a) (t_to count to_ a) (t_ls count to_ ls a s) (t_ea count ea c) (t_la count la c) (t_fs count ea fs c s) := by
  unfold CI at h ⊢
  obtain ⟨h1, h2, h3, h4, h5, h6, h7, h8, h9, h10, h11, h12, h13, h14, h15, h16, h17, h18⟩ := h
  unfold t_fr t_to t_ls t_ea t_la t_fs mn mx
  refine ⟨h1, h2, by omega, by omega, by omega, by omega, ?_, ?_, ?_, ?_, ?_, ?_, ?_, ?_, ?_, ?_, ?_, ?_⟩
  all_goals (repeat' split)
  all_goals omega
def askv (r : Int) : Int := mx (md r 15000 8000000 1) 6000
theorem ask_span {r : Int} (h1 : 1 ≤ r) (h2 : r ≤ 17179869184) : 6000 ≤ askv r ∧ askv r ≤ 1000000000 := by
  have e : md r 15000 8000000 1 = r * 15000 / 8000000 := md_down (by decide) (isI64_mk (by omega) (by omega))
  unfold askv mx
  rw [e]
  split <;> omega
end Go.Proofs.Ytdddpmmpfemibaa.P
end

section
namespace Go.Proofs.Ytdddpmmpfemibaa.P
open Go.RowKit Go.Proofs.YtdddpmmpfemibaaW.PrintWords Go.Proofs.YtdddpmmpfemibaaW.PrintLast Go.Proofs.YtdddpmmpfemibaaW.PrintMore
set_option linter.unusedVariables false
set_option linter.unusedSimpArgs false
theorem RA.of_more (l : List (Int × Int × Int)) (x : Int × Int × Int) : RA.of (l ++ [x]) = some (match RA.of l with
    | none => RA.step (RA.start x) x
    | some a => RA.step a x) := by
  cases l with
  | nil => rfl
  | cons y r => simp [RA.of, List.foldl_append]
def RA.ok (a : RA) : Prop := a.lst.2.1 = a.ma ∧ a.fst.2.2 = a.lc
theorem RA.ok_start (x : Int × Int × Int) : (RA.start x).ok := ⟨rfl, rfl⟩
theorem RA.ok_step {a : RA} (h : a.ok) (x : Int × Int × Int) : (a.step x).ok := by
  obtain ⟨h1, h2⟩ := h
  constructor
  · simp only [RA.step]
    rw [← h1]
    unfold mx
    by_cases hx : a.lst.2.1 ≤ x.2.1
    · rw [if_pos hx]
      by_cases hy : a.lst.2.1 < x.2.1
      · rw [if_pos hy]
      · rw [if_neg hy]; omega
    · rw [if_neg hx, if_neg (by omega)]
  · simp only [RA.step]
    rw [← h2]
    unfold mn
    by_cases hx : x.2.2 < a.fst.2.2
    · rw [if_pos hx, if_pos hx]
    · rw [if_neg hx, if_neg hx]
theorem RA.ok_of : ∀ {l : List (Int × Int × Int)} {a : RA}, RA.of l = some a → a.ok := by
  intro l a h
  cases l with
  | nil => cases h
  | cons x r =>
    simp only [RA.of, Option.some.injEq] at h
    rw [← h]
    have key : ∀ (l : List (Int × Int × Int)) (a : RA), a.ok → (l.foldl RA.step a).ok := by
      intro l
      induction l with
      | nil => intro a h; exact h
      | cons x r ih => intro a h; exact ih _ (RA.ok_step h x)
    exact key _ _ (RA.ok_start x)
def CluRel (x : Clu) (c : RCl) : Prop :=
  x.c0 = c.ra ∧ x.c1 = c.by_ ∧ x.c3 = (c.l.length : Int) ∧ match RA.of c.l with
    | none => x.c4 = 0
    | some a => x.c4 = a.all ∧ x.c5 = a.la ∧ x.c6 = a.ma ∧ x.c7 = a.lst.1 ∧ x.c8 = a.lc ∧ x.c9 = a.mc ∧ x.c10 = a.fst.1
def Clu.got (x : Clu) (s a c : Int) : Clu :=
  { x with c3 := wrap64 (x.c3 + 1), c4 := wrap64 (x.c4 + s), c5 := mn (if x.c3 = 0 then a else x.c5) a, c6 := if x.c3 = 0 ∨ x.c6 ≤ a then a else x.c6, c7 := if x.c3 = 0 ∨ x.c6 ≤ a then s else x.c7,
           c8 := if x.c3 = 0 ∨ c < x.c8 then c else x.c8, c9 := mx (if x.c3 = 0 then c else x.c9) c, c10 := if x.c3 = 0 ∨ c < x.c8 then s else x.c10 }
theorem CluRel.got {x : Clu} {c : RCl} (h : CluRel x c) (hl : c.l.length < 1000000) (s a t : Int) : CluRel (x.got s a t) { c with l := c.l ++ [(s, a, t)] } := by
  obtain ⟨h0, h1, h3, h⟩ := h
  refine ⟨h0, h1, ?_, ?_⟩
  · simp only [Clu.got, List.length_append, List.length_singleton]
    rw [h3, wrap64_id (isI64_mk (by omega) (by omega))]
    omega
  · simp only [RA.of_more]
    cases hr : RA.of c.l with
    | none =>
      rw [hr] at h
      have h4 : x.c4 = 0 := h
      have hn : c.l.length = 0 := by
        cases hc : c.l with
        | nil => rfl
        | cons y r => rw [hc] at hr; cases hr
      have h30 : x.c3 = 0 := by rw [h3, hn]; rfl
      have e1 : mn a a = a := by unfold mn; split <;> rfl
      have e2 : mx t t = t := by unfold mx; split <;> rfl
      have e3 : mx a a = a := by unfold mx; split <;> rfl
      have e4 : mn t t = t := by unfold mn; split <;> rfl
      simp [Clu.got, RA.step, RA.start, h4, h30, e1, e2, e3, e4]
    | some b =>
      rw [hr] at h
      obtain ⟨g4, g5, g6, g7, g8, g9, g10⟩ := h
      obtain ⟨k1, k2⟩ := RA.ok_of hr
      have hn : x.c3 ≠ 0 := by
        rw [h3]
        cases hc : c.l with
        | nil => rw [hc] at hr; cases hr
        | cons y r => simp only [List.length_cons]; omega
      simp only [Clu.got, RA.step, hn, false_or, if_false, g4, g5, g6, g7, g8, g9, g10, k1, k2]
      refine ⟨by first | rfl | trivial, by first | rfl | trivial, ?_, ?_, ?_, by first | rfl | trivial, ?_⟩
      · unfold mx
        by_cases q : b.ma ≤ a
        · rw [if_pos q]
          by_cases q2 : b.ma < a
          · rw [if_pos q2]
          · rw [if_neg q2]; omega
        · rw [if_neg q, if_neg (by omega)]
      · by_cases q : b.ma ≤ a
        · rw [if_pos q, if_pos q]
        · rw [if_neg q, if_neg q]
      · unfold mn
        rfl
      · by_cases q : t < b.lc
        · rw [if_pos q, if_pos q]
        · rw [if_neg q, if_neg q]
def ov (b t : Int) : Int := if t ≤ 0 then 0 else rv b t
theorem mn_zero_l {x : Int} (h : 0 ≤ x) : mn 0 x = 0 := by unfold mn; split <;> omega
theorem mn_zero_r {x : Int} (h : 0 ≤ x) : mn x 0 = 0 := by unfold mn; split <;> omega
theorem ov_nonneg {b t : Int} (h : 0 ≤ b) : 0 ≤ ov b t := by
  unfold ov
  split
  · omega
  · exact rv_nonneg (by omega) h
theorem res_same {asked count bytes fr to_ ls ea la fs : Int} (h1 : 0 ≤ bytes - ls) (h2 : 0 ≤ bytes - fs) :
    resv asked count bytes fr to_ ls ea la fs = if count < 4 ∨ bytes < Int.tdiv asked 2 then 0 else mn (ov (bytes - ls) (to_ - fr)) (ov (bytes - fs) (la - ea)) := by
  unfold resv
  by_cases c1 : count < 4
  · rw [if_pos (.inl c1), if_pos (.inl c1)]
  by_cases c2 : bytes < Int.tdiv asked 2
  · rw [if_pos (.inr (.inl c2)), if_pos (.inr c2)]
  rw [if_neg (c := count < 4 ∨ bytes < Int.tdiv asked 2) (by omega)]
  by_cases c3 : to_ ≤ fr
  · rw [if_pos (.inr (.inr (.inl c3)))]
    have e : ov (bytes - ls) (to_ - fr) = 0 := by unfold ov; rw [if_pos (by omega)]
    rw [e, mn_zero_l (ov_nonneg h2)]
  by_cases c4 : la ≤ ea
  · rw [if_pos (.inr (.inr (.inr c4)))]
    have e : ov (bytes - fs) (la - ea) = 0 := by unfold ov; rw [if_pos (by omega)]
    rw [e, mn_zero_r (ov_nonneg h1)]
  rw [if_neg (by omega)]
  unfold ov
  rw [if_neg (by omega), if_neg (by omega)]
theorem lk_more (l : List (Int × Clu)) (k : Int) (x : Clu) (j : Int) : lk (l ++ [(k, x)]) j = match lk l j with
    | some y => some y
    | none => if k = j then some x else none := by
  induction l with
  | nil => simp [lk]
  | cons q r ih =>
    simp only [List.cons_append, lk]
    by_cases h : q.1 = j
    · rw [if_pos h, if_pos h]
    · rw [if_neg h, if_neg h]; exact ih
theorem lk_up_same : ∀ (l : List (Int × Clu)) (k : Int) (x y : Clu), lk l k = some y → lk (up l k x) k = some x
  | [], k, x, y, h => by cases h
  | q :: r, k, x, y, h => by
    simp only [lk] at h
    simp only [up]
    by_cases hk : q.1 = k
    · rw [if_pos hk]; simp [lk]
    · rw [if_neg hk] at h ⊢
      simp only [lk]
      rw [if_neg hk]
      exact lk_up_same r k x y h
theorem lk_up_other : ∀ (l : List (Int × Clu)) (k : Int) (x : Clu) (j : Int), j ≠ k → lk (up l k x) j = lk l j
  | [], k, x, j, _ => rfl
  | q :: r, k, x, j, h => by
    simp only [up]
    by_cases hk : q.1 = k
    · rw [if_pos hk]
      simp only [lk]
      rw [if_neg (fun e => h e.symm), if_neg (fun e => h (e.symm.trans hk))]
    · rw [if_neg hk]
      simp only [lk]
      rw [lk_up_other r k x j h]
theorem keys_up : ∀ (l : List (Int × Clu)) (k : Int) (x : Clu), (up l k x).map Prod.fst = l.map Prod.fst
  | [], _, _ => rfl
  | q :: r, k, x => by
    simp only [up]
    by_cases hk : q.1 = k
    · rw [if_pos hk]; simp [hk]
    · rw [if_neg hk]; simp [keys_up r k x]
theorem rm_sub : ∀ (l : List (Int × Clu)) (k : Int), (rm l k).Sublist l
  | [], _ => List.Sublist.refl _
  | q :: r, k => by
    simp only [rm]
    by_cases hk : q.1 = k
    · rw [if_pos hk]; exact List.sublist_cons_self _ _
    · rw [if_neg hk]; exact (rm_sub r k).cons_cons _
theorem lk_notin : ∀ (l : List (Int × Clu)) (k : Int), k ∉ l.map Prod.fst → lk l k = none
  | [], _, _ => rfl
  | q :: r, k, h => by
    simp only [List.map_cons, List.mem_cons, not_or] at h
    simp only [lk]
    rw [if_neg (fun e => h.1 e.symm)]
    exact lk_notin r k h.2
theorem lk_in : ∀ (l : List (Int × Clu)) (k : Int), k ∈ l.map Prod.fst → ∃ x, lk l k = some x
  | [], _, h => by simp at h
  | q :: r, k, h => by
    simp only [lk]
    by_cases hk : q.1 = k
    · exact ⟨q.2, by rw [if_pos hk]⟩
    · rw [if_neg hk]
      simp only [List.map_cons, List.mem_cons] at h
      exact lk_in r k (h.resolve_left (fun e => hk e.symm))
theorem lk_rm_same : ∀ (l : List (Int × Clu)) (k : Int), (l.map Prod.fst).Nodup → lk (rm l k) k = none
  | [], _, _ => rfl
  | q :: r, k, h => by
    simp only [List.map_cons, List.nodup_cons] at h
    simp only [rm]
    by_cases hk : q.1 = k
    · rw [if_pos hk]; exact lk_notin r k (hk ▸ h.1)
    · rw [if_neg hk]
      simp only [lk]
      rw [if_neg hk]
      exact lk_rm_same r k h.2
theorem lk_rm_other : ∀ (l : List (Int × Clu)) (k j : Int), j ≠ k → lk (rm l k) j = lk l j
  | [], _, _, _ => rfl
  | q :: r, k, j, h => by
    simp only [rm]
    by_cases hk : q.1 = k
    · rw [if_pos hk]
      simp only [lk]
      rw [if_neg (fun e => h (e.symm.trans hk))]
    · rw [if_neg hk]
      simp only [lk]
      rw [lk_rm_other r k j h]
structure PlayRel (s : PbS) (r : PrS) : Prop where
  n : s.n = (r.l.length : Int)
  b : s.b = r.b
  nd : (s.l.map Prod.fst).Nodup
  key : ∀ k : Int, k ∈ s.l.map Prod.fst ↔ (1 ≤ k ∧ (r.l.length : Int) - 4 < k ∧ k ≤ (r.l.length : Int))
  rel : ∀ (k : Int) (x : Clu), lk s.l k = some x → ∃ c, r.l[(k - 1).toNat]? = some c ∧ CluRel x c ∧ x.c2 = c.by_ - c.se
  op : s.o = match r.l.getLast? with
    | none => 0
    | some c => if c.se < c.by_ then (r.l.length : Int) else 0
theorem PlayRel.start : PlayRel ⟨0, 0, 0, []⟩ ⟨0, []⟩ :=
  ⟨rfl, rfl, by simp, fun k => by simp; omega, fun k x h => by simp [lk] at h, rfl⟩
theorem PlayRel.more {s : PbS} {r : PrS} (h : PlayRel s r) {x : Clu} {c : RCl} (hx : CluRel x c) (h2 : x.c2 = c.by_ - c.se) (ho : c.se < c.by_) :
    PlayRel ⟨(r.l.length : Int) + 1, (r.l.length : Int) + 1, s.b, rm (s.l ++ [((r.l.length : Int) + 1, x)]) ((r.l.length : Int) + 1 - 4)⟩ ⟨r.b, r.l ++ [c]⟩ := by
  have hnd : ((s.l ++ [((r.l.length : Int) + 1, x)]).map Prod.fst).Nodup := by
    rw [List.map_append, List.nodup_append]
    refine ⟨h.nd, by simp, fun a ha b hb => ?_⟩
    simp only [List.map_cons, List.map_nil, List.mem_singleton] at hb
    have := (h.key a).1 ha
    omega
  refine ⟨by simp, h.b, ((rm_sub _ _).map Prod.fst).nodup hnd, fun k => ?_, fun k y hk => ?_, by simp [ho]⟩
  · simp only [List.length_append, List.length_singleton, Int.natCast_add]
    have key : ∀ k, k ∈ (s.l ++ [((r.l.length : Int) + 1, x)]).map Prod.fst ↔ (1 ≤ k ∧ (r.l.length : Int) - 4 < k ∧ k ≤ (r.l.length : Int)) ∨ k = (r.l.length : Int) + 1 := fun k => by
      rw [List.map_append, List.mem_append, h.key k]; simp
    constructor
    · intro hk
      have h1 := (key k).1 (((rm_sub _ _).map Prod.fst).subset hk)
      have h3 : k ≠ (r.l.length : Int) + 1 - 4 := fun e => by
        have := lk_rm_same _ ((r.l.length : Int) + 1 - 4) hnd
        obtain ⟨z, hz⟩ := lk_in _ k hk
        rw [e, this] at hz
        cases hz
      simp only [Int.ofNat_one]
      omega
    · intro hk
      simp only [Int.ofNat_one] at hk
      have h1 := (key k).2 (by omega)
      obtain ⟨z, hz⟩ := lk_in _ k h1
      rw [← lk_rm_other _ ((r.l.length : Int) + 1 - 4) k (by omega)] at hz
      exact Classical.byContradiction (fun hn => by rw [lk_notin _ k hn] at hz; cases hz)
  · have hne : k ≠ (r.l.length : Int) + 1 - 4 := fun e => by rw [e, lk_rm_same _ _ hnd] at hk; cases hk
    rw [lk_rm_other _ _ _ hne, lk_more] at hk
    cases hq : lk s.l k with
    | some z =>
      rw [hq] at hk
      simp only [Option.some.injEq] at hk
      subst hk
      obtain ⟨c', h5, h6⟩ := h.rel k z hq
      refine ⟨c', ?_, h6⟩
      rw [List.getElem?_append_left (by obtain ⟨hlt, _⟩ := List.getElem?_eq_some_iff.1 h5; exact hlt)]
      exact h5
    | none =>
      rw [hq] at hk
      by_cases e : (r.l.length : Int) + 1 = k
      · rw [if_pos e] at hk
        simp only [Option.some.injEq] at hk
        subst hk
        refine ⟨c, ?_, hx, h2⟩
        rw [show (k - 1).toNat = r.l.length by omega]
        simp
      · rw [if_neg e] at hk; cases hk
theorem PlayRel.upd {s : PbS} {r : PrS} (h : PlayRel s r) {k : Int} {x x' : Clu} {c c' : RCl} (hk : lk s.l k = some x) (hx : CluRel x' c') (h2 : x'.c2 = c'.by_ - c'.se) {o' b' b'' : Int} (hb : b' = b'')
    (ho : o' = match (r.l.set (k - 1).toNat c').getLast? with
      | none => 0
      | some c => if c.se < c.by_ then (r.l.length : Int) else 0) : PlayRel ⟨s.n, o', b', up s.l k x'⟩ ⟨b'', r.l.set (k - 1).toNat c'⟩ := by
  have hin : k ∈ s.l.map Prod.fst := Classical.byContradiction (fun hn => by rw [lk_notin _ k hn] at hk; cases hk)
  have hr := (h.key k).1 hin
  refine ⟨by simp [h.n], hb, by rw [keys_up]; exact h.nd, fun j => by rw [keys_up, h.key j]; simp, fun j y hj => ?_, by simpa using ho⟩
  by_cases e : j = k
  · subst e
    rw [lk_up_same _ _ _ _ hk] at hj
    simp only [Option.some.injEq] at hj
    subst hj
    exact ⟨c', by rw [List.getElem?_set_self (by omega)], hx, h2⟩
  · rw [lk_up_other _ _ _ _ e] at hj
    obtain ⟨c1, h3, h4⟩ := h.rel j y hj
    have hj2 := (h.key j).1 (Classical.byContradiction (fun hn => by rw [lk_notin _ j hn] at hj; cases hj))
    exact ⟨c1, by rw [List.getElem?_set_ne (by omega)]; exact h3, h4⟩
theorem last_set {α : Type} (l : List α) (c : α) (hp : 0 < l.length) : (l.set (l.length - 1) c).getLast? = some c := by
  rw [List.getLast?_eq_getElem?, List.length_set, List.getElem?_set_self (by omega)]
theorem last_set_ne {α : Type} (l : List α) (i : Nat) (c : α) (h : i ≠ l.length - 1) : (l.set i c).getLast? = l.getLast? := by
  rw [List.getLast?_eq_getElem?, List.getLast?_eq_getElem?, List.length_set, List.getElem?_set_ne h]
end Go.Proofs.Ytdddpmmpfemibaa.P
end

section
namespace Go.Proofs.Ytdddpmmpfemibaa.P
open Go.RowKit Go.Proofs.YtdddpmmpfemibaaW.PrintWords Go.Proofs.YtdddpmmpfemibaaW.PrintLast Go.Proofs.YtdddpmmpfemibaaW.PrintMore
set_option linter.unusedVariables false
set_option linter.unusedSimpArgs false
theorem rbytes_eq {a b : Int} (ha : isI64 a) (hb : isI64 b) : flywheelref04_Bytes.f a b = some (md a b 8000000 1) := by
  unfold flywheelref04_Bytes.f
  rw [rdo_eq 1 ha hb (isI64_mk (by decide) (by decide))]; rfl
theorem rrate_eq {a b : Int} (ha : isI64 a) (hb : isI64 b) : flywheelref04_Rate.f a b = some (md a 8000000 b 1) := by
  unfold flywheelref04_Rate.f
  rw [rdo_eq 1 ha (isI64_mk (by decide) (by decide)) hb]; rfl
theorem over_eq {b t : Int} (hb : isI64 b) (ht : isI64 t) : flywheelref26_over.f b t = some (ov b t) := by
  unfold flywheelref26_over.f ov
  by_cases h : t ≤ 0
  · rw [if_pos h, if_pos h]
  · rw [if_neg h, if_neg h, rrate_eq hb ht]; rfl
theorem may_good (s a : Int) : flywheelref26_may.f s a = probe_good.f s a := rfl
theorem good_some (s a : Int) : ∃ t, probe_good.f s a = some t ∧ (t = true → 1 ≤ s ∧ s ≤ 1500 ∧ 0 ≤ a ∧ a ≤ 1125899906842624) := by
  unfold probe_good.f
  by_cases h1 : s ≥ 1
  · rw [if_pos h1]
    by_cases h2 : s ≤ 1500
    · rw [if_pos h2]
      by_cases h3 : a ≥ 0
      · rw [if_pos h3]
        exact ⟨_, rfl, fun h => ⟨h1, h2, h3, of_decide_eq_true h⟩⟩
      · rw [if_neg h3]; exact ⟨_, rfl, fun h => by cases h⟩
    · rw [if_neg h2]; exact ⟨_, rfl, fun h => by cases h⟩
  · rw [if_neg h1]; exact ⟨_, rfl, fun h => by cases h⟩
theorem PlayRel.open_cases {s : PbS} {r : PrS} (h : PlayRel s r) : (s.o = 0 ∧ prOpen r = false) ∨ (s.o = (r.l.length : Int) ∧ 0 < r.l.length ∧ prOpen r = true ∧ ∃ c, r.l.getLast? = some c ∧ c.se < c.by_) := by
  have h1 := h.op
  unfold prOpen
  cases hl : r.l.getLast? with
  | none => rw [hl] at h1; exact .inl ⟨h1, rfl⟩
  | some c =>
    rw [hl] at h1
    by_cases hc : c.se < c.by_
    · simp only [hc, if_true] at h1
      refine .inr ⟨h1, ?_, decide_eq_true hc, c, rfl, hc⟩
      cases he : r.l with
      | nil => rw [he] at hl; cases hl
      | cons a b => simp
    · simp only [hc, if_false] at h1
      exact .inl ⟨h1, decide_eq_false hc⟩
structure PInv (i : Nat) (s : PbS) (r : PrS) : Prop where
  rel : PlayRel s r
  len : r.l.length ≤ i
  sm : ∀ (k : Int) (x : Clu), lk s.l k = some x → CI x.c1 x.c3 x.c4 x.c5 x.c6 x.c7 x.c8 x.c9 x.c10 ∧ x.c3 ≤ i ∧ x.c4 ≤ 1500 * i ∧ -1500 ≤ x.c2 ∧ x.c2 ≤ x.c1
theorem PInv.on {i : Nat} {s : PbS} {r : PrS} (h : PInv i s r) : PInv (i + 1) s r :=
  ⟨h.rel, Nat.le_succ_of_le h.len, fun k x hk => by
    obtain ⟨h1, h2, h3, h4, h5⟩ := h.sm k x hk
    exact ⟨h1, by omega, by omega, h4, h5⟩⟩
theorem start_step {i : Nat} {s : PbS} {r : PrS} (h : PInv i s r) (hi : i < 1000) {R : Int} (hR : isI64 R) :
    ∃ v s' r', probe_Probe_Start.f s R = some (v, s') ∧ flywheelref26_Probe_Start.f r R = some (v, r') ∧ PInv (i + 1) s' r' := by
  have hl := h.len
  unfold probe_Probe_Start.f flywheelref26_Probe_Start.f
  rw [if_pos (c := r.l.length < 1000000) (by omega)]
  by_cases h1 : R < 1
  · rw [if_pos h1, if_pos h1]; exact ⟨0, s, r, rfl, rfl, h.on⟩
  rw [if_neg h1, if_neg h1]
  by_cases h2 : 17179869184 < R
  · rw [if_pos h2, if_pos h2]; exact ⟨0, s, r, rfl, rfl, h.on⟩
  rw [if_neg h2, if_neg h2]
  rcases h.rel.open_cases with ⟨ho, hp⟩ | ⟨ho, hn, hp, _⟩
  · rw [if_neg (c := 0 < s.o) (by omega), if_neg (c := prOpen r = true) (by rw [hp]; simp), bytes_eq hR, rbytes_eq hR (isI64_mk (by decide) (by decide))]
    simp only [Option.bind_some]
    have ha := ask_span (r := R) (by omega) (by omega)
    have e1 : wrap64 (s.n + 1) = (r.l.length : Int) + 1 := by rw [h.rel.n, wrap64_id (isI64_mk (by omega) (by omega))]
    have e2 : wrap64 ((r.l.length : Int) + 1 - 4) = (r.l.length : Int) + 1 - 4 := wrap64_id (isI64_mk (by omega) (by omega))
    have hno : lk s.l ((r.l.length : Int) + 1) = none := lk_notin _ _ (fun hin => by have := (h.rel.key _).1 hin; omega)
    rw [e1, if_pos hno, e2]
    refine ⟨_, _, _, rfl, by rw [Int.natCast_add]; rfl, ?_⟩
    have hask : mx (md R 15000 8000000 1) 6000 = askv R := rfl
    rw [hask]
    refine ⟨h.rel.more (x := ⟨R, askv R, askv R, 0, 0, 0, 0, 0, 0, 0, 0⟩) (c := ⟨R, askv R, 0, []⟩) ⟨rfl, rfl, rfl, rfl⟩ (by show askv R = askv R - 0; omega) (by show (0 : Int) < askv R; omega), by simp; omega, fun k x hk => ?_⟩
    have hnd : ((s.l ++ [((r.l.length : Int) + 1, (⟨R, askv R, askv R, 0, 0, 0, 0, 0, 0, 0, 0⟩ : Clu))]).map Prod.fst).Nodup := by
      rw [List.map_append, List.nodup_append]
      refine ⟨h.rel.nd, by simp, fun a ha b hb => ?_⟩
      simp only [List.map_cons, List.map_nil, List.mem_singleton] at hb
      have := (h.rel.key a).1 ha
      omega
    have hne : k ≠ (r.l.length : Int) + 1 - 4 := fun e => by
      have hk' : lk (rm (s.l ++ [((r.l.length : Int) + 1, (⟨R, askv R, askv R, 0, 0, 0, 0, 0, 0, 0, 0⟩ : Clu))]) ((r.l.length : Int) + 1 - 4)) k = some x := hk
      rw [e, lk_rm_same _ _ hnd] at hk'
      cases hk'
    have hk2 : lk (s.l ++ [((r.l.length : Int) + 1, (⟨R, askv R, askv R, 0, 0, 0, 0, 0, 0, 0, 0⟩ : Clu))]) k = some x := (lk_rm_other _ _ _ hne).symm.trans hk
    rw [lk_more] at hk2
    cases hq : lk s.l k with
    | some z =>
      rw [hq] at hk2
      simp only [Option.some.injEq] at hk2
      subst hk2
      obtain ⟨g1, g2, g3, g4, g5⟩ := h.sm k z hq
      exact ⟨g1, by omega, by omega, g4, g5⟩
    | none =>
      rw [hq] at hk2
      by_cases e : (r.l.length : Int) + 1 = k
      · rw [if_pos e] at hk2
        simp only [Option.some.injEq] at hk2
        subst hk2
        exact ⟨by show CI (askv R) 0 0 0 0 0 0 0 0; unfold CI; omega, by show (0 : Int) ≤ _; omega, by show (0 : Int) ≤ _; omega, by show -1500 ≤ askv R; omega, Int.le_refl _⟩
      · rw [if_neg e] at hk2; cases hk2
  · rw [if_pos (c := 0 < s.o) (by omega), if_pos hp]; exact ⟨0, s, r, rfl, rfl, h.on⟩
theorem sent_step {i : Nat} {s : PbS} {r : PrS} (h : PInv i s r) (hi : i < 1000) (N S A : Int) :
    ∃ v s' r', probe_Probe_Sent.f s N S A = some (v, s') ∧ flywheelref26_Probe_Sent.f r N S A = some (v, r') ∧ PInv (i + 1) s' r' := by
  have hl := h.len
  unfold probe_Probe_Sent.f flywheelref26_Probe_Sent.f
  rw [if_pos (c := r.l.length < 1000000) (by omega)]
  rcases h.rel.open_cases with ⟨ho, hp⟩ | ⟨ho, hn, hp, c, hc, hlt⟩
  · have hr : (match r.l.getLast? with
      | none => some (false, r)
      | some c => if c.se < c.by_ then (if N = (r.l.length : Int) then ((flywheelref26_may.f S A).bind fun t => if t = true then some (true, (⟨r.b, r.l.set (r.l.length - 1) ⟨c.ra, c.by_, wrap64 (c.se + S), c.l⟩⟩ : PrS)) else some (false, r)) else some (false, r)) else some (false, r)) = some (false, r) := by
      unfold prOpen at hp
      cases hq : r.l.getLast? with
      | none => rfl
      | some c =>
        rw [hq] at hp
        exact if_neg (of_decide_eq_false hp)
    have hm : (if N = 0 then some (false, s) else (if N = s.o then ((probe_good.f S A).bind fun t => (if t = true then ((lk s.l N).bind fun x => (some (wrap64 (x.c2 - S))).bind fun l => some (true, (⟨s.n, if l ≤ 0 then 0 else s.o, s.b, up s.l N { x with c2 := l }⟩ : PbS))) else some (false, s))) else some (false, s))) = some (false, s) := by
      by_cases h0 : N = 0
      · rw [if_pos h0]
      · rw [if_neg h0, if_neg (by omega)]
    exact ⟨false, s, r, hm, hr, h.on⟩
  · rw [hc]
    simp only
    rw [if_pos hlt]
    by_cases hN : N = (r.l.length : Int)
    · rw [if_neg (c := N = 0) (by omega), if_pos (c := N = s.o) (by omega), if_pos hN, may_good]
      obtain ⟨t, ht, hg⟩ := good_some S A
      rw [ht]
      simp only [Option.bind_some]
      cases t with
      | false => exact ⟨false, s, r, rfl, rfl, h.on⟩
      | true =>
        obtain ⟨s1, s2, a1, a2⟩ := hg rfl
        obtain ⟨x, hx⟩ := lk_in s.l N ((h.rel.key N).2 (by omega))
        obtain ⟨c', hc', hxr, hx2⟩ := h.rel.rel N x hx
        have hcc : c' = c := by
          rw [show (N - 1).toNat = r.l.length - 1 by omega, ← List.getLast?_eq_getElem?, hc] at hc'
          exact (Option.some.inj hc').symm
        subst hcc
        obtain ⟨g1, g2, g3, g4, g5⟩ := h.sm N x hx
        have hby : x.c1 = c'.by_ := hxr.2.1
        have g1' := g1
        unfold CI at g1'
        have e1 : wrap64 (x.c2 - S) = x.c2 - S := wrap64_id (isI64_mk (by omega) (by omega))
        have e2 : wrap64 (c'.se + S) = c'.se + S := wrap64_id (isI64_mk (by omega) (by omega))
        rw [hx]
        simp only [Option.bind_some, if_true]
        rw [e1, e2]
        refine ⟨true, _, _, rfl, rfl, ?_⟩
        have hset : r.l.set (r.l.length - 1) ⟨c'.ra, c'.by_, c'.se + S, c'.l⟩ = r.l.set (N - 1).toNat ⟨c'.ra, c'.by_, c'.se + S, c'.l⟩ := by rw [show (N - 1).toNat = r.l.length - 1 by omega]
        refine ⟨?_, by simp; omega, fun k y hk => ?_⟩
        · rw [hset]
          refine h.rel.upd hx (x' := { x with c2 := x.c2 - S }) (c := c') (c' := ⟨c'.ra, c'.by_, c'.se + S, c'.l⟩) hxr (by show x.c2 - S = c'.by_ - (c'.se + S); omega) h.rel.b ?_
          rw [show (N - 1).toNat = r.l.length - 1 by omega, last_set _ _ hn]
          simp only
          by_cases q : x.c2 - S ≤ 0
          · rw [if_pos q, if_neg (by omega)]
          · rw [if_neg q, if_pos (by omega)]; exact ho
        · by_cases e : k = N
          · subst e
            have hk' : lk (up s.l k { x with c2 := x.c2 - S }) k = some y := hk
            rw [lk_up_same _ _ _ _ hx] at hk'
            simp only [Option.some.injEq] at hk'
            subst hk'
            exact ⟨g1, by show x.c3 ≤ _; omega, by show x.c4 ≤ _; omega, by show -1500 ≤ x.c2 - S; omega, by show x.c2 - S ≤ x.c1; omega⟩
          · have hk' : lk s.l k = some y := (lk_up_other _ _ _ _ e).symm.trans hk
            obtain ⟨q1, q2, q3, q4, q5⟩ := h.sm k y hk'
            exact ⟨q1, by omega, by omega, q4, q5⟩
    · rw [if_neg hN]
      by_cases h0 : N = 0
      · rw [if_pos h0]; exact ⟨false, s, r, rfl, rfl, h.on⟩
      · rw [if_neg h0, if_neg (by omega)]; exact ⟨false, s, r, rfl, rfl, h.on⟩
theorem gres {c : RCl} {a : RA} (ha : RA.of c.l = some a) {x : Clu} (hx : CluRel x c) (hc : CI x.c1 x.c3 x.c4 x.c5 x.c6 x.c7 x.c8 x.c9 x.c10) :
    flywheelref26_cluster_result.f c.by_ c.l = some (resv x.c1 x.c3 x.c4 x.c5 x.c6 x.c7 x.c8 x.c9 x.c10) := by
  obtain ⟨h0, h1, h3, h⟩ := hx
  rw [ha] at h
  obtain ⟨g4, g5, g6, g7, g8, g9, g10⟩ := h
  unfold flywheelref26_cluster_result.f
  unfold CI at hc
  rw [ha, Option.bind_some, res_same (by omega) (by omega), ← h1, ← h3, ← g4, ← g5, ← g6, ← g7, ← g8, ← g9, ← g10]
  have ht : 0 ≤ Int.tdiv x.c1 2 ∧ Int.tdiv x.c1 2 ≤ x.c1 := by
    rw [Int.tdiv_eq_ediv_of_nonneg (by omega)]; omega
  rw [wrap64_id (a := Int.tdiv x.c1 2) (isI64_mk (by omega) (by omega))]
  by_cases c1 : x.c3 < 4
  · rw [if_pos c1, if_pos (.inl c1)]
  rw [if_neg c1]
  by_cases c2 : x.c4 < Int.tdiv x.c1 2
  · rw [if_pos c2, if_pos (.inr c2)]
  rw [if_neg c2, if_neg (by omega), wrap64_id (a := x.c4 - x.c10) (isI64_mk (by omega) (by omega)), wrap64_id (a := x.c9 - x.c8) (isI64_mk (by omega) (by omega)), wrap64_id (a := x.c4 - x.c7) (isI64_mk (by omega) (by omega)), wrap64_id (a := x.c6 - x.c5) (isI64_mk (by omega) (by omega)),
    over_eq (isI64_mk (by omega) (by omega)) (isI64_mk (by omega) (by omega)), over_eq (isI64_mk (by omega) (by omega)) (isI64_mk (by omega) (by omega))]
  rfl
theorem CI.got {x : Clu} {S A C : Int} (h : CI x.c1 x.c3 x.c4 x.c5 x.c6 x.c7 x.c8 x.c9 x.c10) (hc : x.c3 < 1000000) (hb : x.c4 ≤ 1499998500) (s1 : 1 ≤ S) (s2 : S ≤ 1500) (a1 : 0 ≤ A) (a2 : A ≤ 1125899906842624) (c1 : -1125899906842624 ≤ C) (c2 : C ≤ 1125899906842624) :
    CI (x.got S A C).c1 (x.got S A C).c3 (x.got S A C).c4 (x.got S A C).c5 (x.got S A C).c6 (x.got S A C).c7 (x.got S A C).c8 (x.got S A C).c9 (x.got S A C).c10 ∧ (x.got S A C).c3 = x.c3 + 1 ∧ (x.got S A C).c4 = x.c4 + S := by
  have hn := h.next hc hb s1 s2 a1 a2 c1 c2
  have w1 : wrap64 (x.c3 + 1) = x.c3 + 1 := wrap64_id (isI64_mk (by unfold CI at h; omega) (by unfold CI at h; omega))
  have w2 : wrap64 (x.c4 + S) = x.c4 + S := wrap64_id (isI64_mk (by unfold CI at h; omega) (by unfold CI at h; omega))
  refine ⟨?_, w1, w2⟩
  show CI x.c1 (wrap64 (x.c3 + 1)) (wrap64 (x.c4 + S)) _ _ _ _ _ _
  rw [w1, w2]
  exact hn
theorem got_main {s : PbS} {x : Clu} {N S A C : Int} (k : Nat) (hk : 1 ≤ k) (hx : lk s.l N = some x) (h : CI x.c1 x.c3 x.c4 x.c5 x.c6 x.c7 x.c8 x.c9 x.c10) (hc : x.c3 < 1000000) (hb : x.c4 ≤ 1499998500) (hg : probe_good.f S A = some true) (s1 : 1 ≤ S) (s2 : S ≤ 1500) (a1 : 0 ≤ A) (a2 : A ≤ 1125899906842624) (c1 : -1125899906842624 ≤ C) (c2 : C ≤ 1125899906842624) :
    probe_Probe_Got.f k s N S A C = some (resv (x.got S A C).c1 (x.got S A C).c3 (x.got S A C).c4 (x.got S A C).c5 (x.got S A C).c6 (x.got S A C).c7 (x.got S A C).c8 (x.got S A C).c9 (x.got S A C).c10,
      ⟨s.n, s.o, mx s.b (resv (x.got S A C).c1 (x.got S A C).c3 (x.got S A C).c4 (x.got S A C).c5 (x.got S A C).c6 (x.got S A C).c7 (x.got S A C).c8 (x.got S A C).c9 (x.got S A C).c10), up s.l N (x.got S A C)⟩) := by
  have hn := (h.got hc hb s1 s2 a1 a2 c1 c2).1
  have key : ∀ (T L E F R' A' : Int), T = (x.got S A C).c6 → L = (x.got S A C).c7 → E = (x.got S A C).c8 → F = (x.got S A C).c10 → mn R' A = (x.got S A C).c5 → mx A' C = (x.got S A C).c9 →
      gotu k s x N S A C T L E F R' A' = some (resv (x.got S A C).c1 (x.got S A C).c3 (x.got S A C).c4 (x.got S A C).c5 (x.got S A C).c6 (x.got S A C).c7 (x.got S A C).c8 (x.got S A C).c9 (x.got S A C).c10,
      ⟨s.n, s.o, mx s.b (resv (x.got S A C).c1 (x.got S A C).c3 (x.got S A C).c4 (x.got S A C).c5 (x.got S A C).c6 (x.got S A C).c7 (x.got S A C).c8 (x.got S A C).c9 (x.got S A C).c10), up s.l N (x.got S A C)⟩) := by
    intro T L E F R' A' e1 e2 e3 e4 e5 e6
    subst e1 e2 e3 e4
    unfold gotu
    simp only [Option.bind_some]
    rw [e5, e6]
    have hr := result_eq (rate := x.c0) (left := x.c2) k hk hn
    have hr' : probe_cluster_result.f k x.c0 x.c1 x.c2 (wrap64 (x.c3 + 1)) (wrap64 (x.c4 + S)) (x.got S A C).c5 (x.got S A C).c6 (x.got S A C).c7 (x.got S A C).c8 (x.got S A C).c9 (x.got S A C).c10 = some (resv (x.got S A C).c1 (x.got S A C).c3 (x.got S A C).c4 (x.got S A C).c5 (x.got S A C).c6 (x.got S A C).c7 (x.got S A C).c8 (x.got S A C).c9 (x.got S A C).c10, x.c0, x.c1, x.c2, wrap64 (x.c3 + 1), wrap64 (x.c4 + S), (x.got S A C).c5, (x.got S A C).c6, (x.got S A C).c7, (x.got S A C).c8, (x.got S A C).c9, (x.got S A C).c10) := hr
    rw [hr']
    rfl
  unfold probe_Probe_Got.f
  rw [hg, Option.bind_some, if_pos rfl, if_neg (by omega), if_neg (by omega), if_neg (by rw [hx]; simp), hx, Option.bind_some]
  by_cases q : x.c3 = 0
  · rw [if_pos q]
    refine key _ _ _ _ _ _ ?_ ?_ ?_ ?_ ?_ ?_
    all_goals simp [Clu.got, q]
  · rw [if_neg q]
    by_cases u : x.c6 ≤ A
    · rw [if_pos u]
      by_cases v : C < x.c8
      · rw [if_pos v]
        refine key _ _ _ _ _ _ ?_ ?_ ?_ ?_ ?_ ?_
        all_goals simp [Clu.got, q, u, v]
      · rw [if_neg v]
        refine key _ _ _ _ _ _ ?_ ?_ ?_ ?_ ?_ ?_
        all_goals simp [Clu.got, q, u, v]
    · rw [if_neg u]
      by_cases v : C < x.c8
      · rw [if_pos v]
        refine key _ _ _ _ _ _ ?_ ?_ ?_ ?_ ?_ ?_
        all_goals simp [Clu.got, q, u, v]
      · rw [if_neg v]
        refine key _ _ _ _ _ _ ?_ ?_ ?_ ?_ ?_ ?_
        all_goals simp [Clu.got, q, u, v]
theorem got_step {i : Nat} {s : PbS} {r : PrS} (h : PInv i s r) (hi : i < 1000) (k : Nat) (hk : 1 ≤ k) (N S A C : Int) :
    ∃ v s' r', probe_Probe_Got.f k s N S A C = some (v, s') ∧ flywheelref26_Probe_Got.f r N S A C = some (v, r') ∧ PInv (i + 1) s' r' := by
  have hl := h.len
  obtain ⟨t, ht, hg⟩ := good_some S A
  by_cases hin : 1 ≤ N ∧ (r.l.length : Int) - 4 < N ∧ N ≤ (r.l.length : Int)
  · unfold flywheelref26_Probe_Got.f
    rw [if_pos (c := r.l.length < 1000000) (by omega), if_neg (c := N < 1) (by omega), if_neg (c := (r.l.length : Int) < N) (by omega), if_neg (c := N ≤ (r.l.length : Int) - 4) (by omega), may_good, ht, Option.bind_some]
    cases t with
    | false =>
      unfold probe_Probe_Got.f
      rw [ht, Option.bind_some, if_neg (by simp), if_neg (by simp)]
      exact ⟨0, s, r, rfl, rfl, h.on⟩
    | true =>
      rw [if_pos rfl]
      obtain ⟨s1, s2, a1, a2⟩ := hg rfl
      by_cases c1 : C < -1125899906842624
      · unfold probe_Probe_Got.f
        rw [ht, Option.bind_some, if_pos rfl, if_pos c1, if_pos c1]
        exact ⟨0, s, r, rfl, rfl, h.on⟩
      by_cases c2 : 1125899906842624 < C
      · unfold probe_Probe_Got.f
        rw [ht, Option.bind_some, if_pos rfl, if_neg c1, if_pos c2, if_neg c1, if_pos c2]
        exact ⟨0, s, r, rfl, rfl, h.on⟩
      obtain ⟨x, hx⟩ := lk_in s.l N ((h.rel.key N).2 hin)
      obtain ⟨c, hc, hxr, hx2⟩ := h.rel.rel N x hx
      obtain ⟨g1, g2, g3, g4, g5⟩ := h.sm N x hx
      have hcl : x.c3 = (c.l.length : Int) := hxr.2.2.1
      rw [got_main k hk hx g1 (by omega) (by omega) ht s1 s2 a1 a2 (by omega) (by omega), if_neg c1, if_neg c2, hc, Option.bind_some, if_pos (by omega)]
      obtain ⟨q1, q2, q3⟩ := g1.got (S := S) (A := A) (C := C) (by omega) (by omega) s1 s2 a1 a2 (by omega) (by omega)
      have hxr' := CluRel.got hxr (by omega) S A C
      obtain ⟨a, ha⟩ : ∃ a, RA.of (c.l ++ [(S, A, C)]) = some a := ⟨_, RA.of_more _ _⟩
      have hres := gres (c := { c with l := c.l ++ [(S, A, C)] }) ha hxr' q1
      have hres' : flywheelref26_cluster_result.f c.by_ (c.l ++ [(S, A, C)]) = _ := hres
      rw [hres', Option.bind_some]
      refine ⟨_, _, _, rfl, rfl, ?_⟩
      have hidx : (N - 1).toNat < r.l.length := by omega
      refine ⟨h.rel.upd hx (x' := x.got S A C) (c := c) (c' := ⟨c.ra, c.by_, c.se, c.l ++ [(S, A, C)]⟩) hxr' hx2 (by rw [h.rel.b]) ?_, by simp; omega, fun k y hk => ?_⟩
      · have hop := h.rel.op
        by_cases e : (N - 1).toNat = r.l.length - 1
        · rw [e, last_set _ _ (by omega)]
          rw [e, ← List.getLast?_eq_getElem?] at hc
          rw [hc] at hop
          exact hop
        · rw [last_set_ne _ _ _ e]
          exact hop
      · by_cases e : k = N
        · subst e
          have hk' : lk (up s.l k (x.got S A C)) k = some y := hk
          rw [lk_up_same _ _ _ _ hx] at hk'
          simp only [Option.some.injEq] at hk'
          subst hk'
          exact ⟨q1, by rw [q2]; omega, by rw [q3]; omega, g4, g5⟩
        · have hk' : lk s.l k = some y := (lk_up_other _ _ _ _ e).symm.trans hk
          obtain ⟨w1, w2, w3, w4, w5⟩ := h.sm k y hk'
          exact ⟨w1, by omega, by omega, w4, w5⟩
  · have hno : lk s.l N = none := lk_notin _ _ (fun hq => hin ((h.rel.key N).1 hq))
    have hm : probe_Probe_Got.f k s N S A C = some (0, s) := by
      unfold probe_Probe_Got.f
      rw [ht, Option.bind_some, if_pos (c := lk s.l N = none) hno]
      simp only [ite_self]
    have hr : flywheelref26_Probe_Got.f r N S A C = some (0, r) := by
      unfold flywheelref26_Probe_Got.f
      rw [if_pos (c := r.l.length < 1000000) (by omega)]
      by_cases h1 : N < 1
      · rw [if_pos h1]
      rw [if_neg h1]
      by_cases h2 : (r.l.length : Int) < N
      · rw [if_pos h2]
      rw [if_neg h2, if_pos (by omega)]
    exact ⟨0, s, r, hm, hr, h.on⟩
theorem open_step {i : Nat} {s : PbS} {r : PrS} (h : PInv i s r) (hi : i < 1001) :
    ∃ a b c, probe_Probe_Open.f s = some (a, b, c, s) ∧ flywheelref26_Probe_Open.f r = some (a, b, c, r) := by
  have hl := h.len
  unfold probe_Probe_Open.f flywheelref26_Probe_Open.f
  rw [if_pos (c := r.l.length < 1000000) (by omega)]
  rcases h.rel.open_cases with ⟨ho, hp⟩ | ⟨ho, hn, hp, c, hc, hlt⟩
  · rw [if_pos ho]
    refine ⟨0, 0, 0, rfl, ?_⟩
    unfold prOpen at hp
    cases hq : r.l.getLast? with
    | none => rfl
    | some c =>
      rw [hq] at hp
      exact if_neg (of_decide_eq_false hp)
  · rw [if_neg (c := s.o = 0) (by omega), hc]
    simp only
    rw [if_pos hlt]
    obtain ⟨x, hx⟩ := lk_in s.l s.o ((h.rel.key s.o).2 (by omega))
    obtain ⟨c', hc', hxr, hx2⟩ := h.rel.rel s.o x hx
    have hcc : c' = c := by
      rw [show (s.o - 1).toNat = r.l.length - 1 by omega, ← List.getLast?_eq_getElem?, hc] at hc'
      exact (Option.some.inj hc').symm
    subst hcc
    obtain ⟨g1, g2, g3, g4, g5⟩ := h.sm s.o x hx
    unfold CI at g1
    rw [hx, Option.bind_some, wrap64_id (a := c'.by_ - c'.se) (isI64_mk (by omega) (by omega)), ← hx2, ← ho]
    exact ⟨_, _, _, rfl, by rw [hxr.1]⟩
end Go.Proofs.Ytdddpmmpfemibaa.P
namespace Go.Proofs.Ytdddpmmpfemibaa.Pure
open Go.RowKit Go.Proofs.Ytdddpmmpfemibaa.P Go.Proofs.YtdddpmmpfemibaaW.PrintWords Go.Proofs.YtdddpmmpfemibaaW.PrintLast Go.Proofs.YtdddpmmpfemibaaW.PrintMore
theorem pp_fin (l : List S28) (k : Nat) (x5 : Int) (s : PbS) (r : PrS) : flywheellaw26_ProbePlays.j1 (k + 1) l x5 false s r = some true := by
  simp only [flywheellaw26_ProbePlays.j1, Bool.false_eq_true, if_false, wakes26, Option.bind_some]
theorem pp_cmp (l : List S28) (k i : Nat) (s : PbS) (r : PrS) (h : PInv i s r) (hi : i < 1001) (hl0 : flywheellaw26_ProbePlays.l0 k l (i : Int) s r = some true) (j : Nat) (hj : j + 1 = i) : flywheellaw26_ProbePlays.j2 (k + 1) l (j : Int) s r = some true := by
  obtain ⟨a, b, c, e1, e2⟩ := open_step h hi
  simp only [flywheellaw26_ProbePlays.j2]
  rw [e1, Option.bind_some, e2, Option.bind_some]
  simp only [if_true, probe_Probe_Best.f, flywheelref26_Probe_Best.f, Option.bind_some]
  rw [if_pos h.rel.b, wnn j (by omega), hj]
  exact hl0
theorem pp_round (l : List S28) (hw : ∀ x ∈ l, (Lit.int .i64 x.f0).wf = true ∧ (Lit.int .i64 x.f1).wf = true ∧ (Lit.int .i64 x.f2).wf = true ∧ (Lit.int .i64 x.f3).wf = true ∧ (Lit.int .i64 x.f4).wf = true ∧ (Lit.int .i64 x.f5).wf = true) (i : Nat) (k : Nat) (s : PbS) (r : PrS) (hi : i < 200) (h : PInv i s r) (hlen : (i : Int) < (l.length : Int))
    (nxt : ∀ s' r', PInv (i + 1) s' r' → flywheellaw26_ProbePlays.j2 (k + 1) l (i : Int) s' r' = some true) : flywheellaw26_ProbePlays.j1 (k + 2) l (i : Int) true s r = some true := by
  simp only [flywheellaw26_ProbePlays.j1, if_true]
  rw [if_pos (c := (0 : Int) ≤ (i : Int)) (by omega), if_pos hlen]
  have hmem : rd_T28 l (i : Int) ∈ l := by
    unfold rd_T28
    rw [List.getD_eq_getElem?_getD, List.getElem?_eq_getElem (by simp; omega)]
    exact List.getElem_mem _
  have hwf := hw _ hmem
  generalize rd_T28 l (i : Int) = z at hwf ⊢
  by_cases z0 : z.f0 = 0
  · rw [if_pos z0]
    obtain ⟨v, s', r', e1, e2, h'⟩ := start_step h (by omega) (isI64_of_wf hwf.2.2.2.1)
    rw [e1, Option.bind_some, e2, Option.bind_some]
    simp only [if_true]
    exact nxt s' r' h'
  rw [if_neg z0]
  by_cases z1 : z.f0 = 1
  · rw [if_pos z1]
    obtain ⟨v, s', r', e1, e2, h'⟩ := sent_step h (by omega) z.f1 z.f2 z.f4
    rw [e1, Option.bind_some, e2, Option.bind_some]
    cases v
    · simp only [Bool.false_eq_true, if_false]
      exact nxt s' r' h'
    · simp only [if_true]
      exact nxt s' r' h'
  rw [if_neg z1]
  by_cases z2 : z.f0 = 2
  · rw [if_pos z2]
    obtain ⟨v, s', r', e1, e2, h'⟩ := got_step h (by omega) (k + 1) (by omega) z.f1 z.f2 z.f4 z.f5
    rw [e1, Option.bind_some, e2, Option.bind_some]
    simp only [if_true]
    exact nxt s' r' h'
  rw [if_neg z2]
  exact nxt s r h.on
theorem pp_loop (l : List S28) (hw : ∀ x ∈ l, (Lit.int .i64 x.f0).wf = true ∧ (Lit.int .i64 x.f1).wf = true ∧ (Lit.int .i64 x.f2).wf = true ∧ (Lit.int .i64 x.f3).wf = true ∧ (Lit.int .i64 x.f4).wf = true ∧ (Lit.int .i64 x.f5).wf = true) : ∀ (m i : Nat) (k : Nat) (s : PbS) (r : PrS), i + m = 200 → 3 * m + 4 ≤ k → PInv i s r → flywheellaw26_ProbePlays.l0 k l (i : Int) s r = some true := by
  intro m
  induction m with
  | zero =>
    intro i k s r him hk h
    obtain ⟨k, rfl⟩ : ∃ j, k = j + 2 := ⟨k - 2, by omega⟩
    simp only [flywheellaw26_ProbePlays.l0]
    rw [decide_eq_false (p := (i : Int) < 200) (by omega)]
    split <;> exact pp_fin _ _ _ _ _
  | succ m ih =>
    intro i k s r him hk h
    obtain ⟨k, rfl⟩ : ∃ j, k = j + 3 := ⟨k - 3, by omega⟩
    simp only [flywheellaw26_ProbePlays.l0]
    by_cases hlen : (i : Int) < (l.length : Int)
    · rw [if_pos hlen, decide_eq_true (p := (i : Int) < 200) (by omega)]
      exact pp_round l hw i k s r (by omega) h hlen (fun s' r' h' => pp_cmp l k (i + 1) s' r' h' (by omega) (ih (i + 1) k s' r' (by omega) (by omega) h') i rfl)
    · rw [if_neg hlen]
      exact pp_fin _ _ _ _ _
theorem ProbePlays : flywheellaw26_ProbePlays.Pure := by
  intro l _ _ hw
  refine ⟨700, ?_⟩
  have h := pp_loop l hw 200 0 700 ⟨0, 0, 0, []⟩ ⟨0, []⟩ (by decide) (by decide) ⟨PlayRel.start, Nat.le_refl _, fun k x hk => by simp [lk] at hk⟩
  generalize 700 = k at h ⊢
  unfold flywheellaw26_ProbePlays.f probe_New.f flywheelref26_New.f
  rw [Option.bind_some, Option.bind_some]
  exact h
end Go.Proofs.Ytdddpmmpfemibaa.Pure
end

section

end

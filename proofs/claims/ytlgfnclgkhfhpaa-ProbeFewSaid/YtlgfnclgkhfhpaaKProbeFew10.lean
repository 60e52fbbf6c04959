-- PUT TOGETHER by a program of this session: of the claim's texts, what is used
import Derived.Test.YtlgfnclgkhfhpaaKProbeFew7
import Derived.Test.YtlgfnclgkhfhpaaKProbeFew8
import Derived.Test.YtlgfnclgkhfhpaaKProbeFew9
import Derived.WalkArith
import Derived.KernelRfl
section
namespace Go.Proofs.Ytlgfnclgkhfhpaa.P
open Go.RowKit
set_option linter.unusedVariables false
set_option linter.unusedSimpArgs false
def md (a b c how : Int) : Int := (mdq a b c how).1
theorem isI64_of_wf {a : Int} (h : (Lit.int .i64 a).wf = true) : isI64 a := by
  simp only [Lit.wf, IntKind.min, IntKind.max, IntKind.signed, IntKind.bits, Bool.and_eq_true, decide_eq_true_eq] at h
  unfold isI64; simp at h; omega
theorem wrap64_id {a : Int} (h : isI64 a) : wrap64 a = a := by unfold isI64 at h; unfold wrap64; omega
theorem isI64_mk {a : Int} (h : -9223372036854775808 ≤ a) (h' : a ≤ 9223372036854775807) : isI64 a := ⟨h, h'⟩
theorem hold64_id (q : Int) (h : isI64 q) : hold64 q = (q, true) := by
  unfold isI64 at h; unfold hold64
  rw [if_neg (by omega), if_neg (by omega)]
theorem hold64_mono {p q : Int} (h : p ≤ q) : (hold64 p).1 ≤ (hold64 q).1 := by
  unfold hold64
  repeat' split
  all_goals (simp only []; omega)
theorem do_eq {a b c : Int} (how : Int) (ha : isI64 a) (hb : isI64 b) (hc : isI64 c) : muldiv_Do.f a b c how = some (md a b c how) := by
  unfold muldiv_Do.f muldiv_quotient_s.f
  rw [if_pos ⟨ha, hb, hc⟩]; rfl
theorem md_pos {a b c how : Int} (hc : 0 < c) (h1 : 1 ≤ how) (h3 : how ≤ 3) : md a b c how = (hold64 (rnd (a * b) c how)).1 := by
  unfold md mdq
  rw [if_neg (by omega), if_neg (by omega)]
theorem rnd_down (n d : Int) : rnd n d 1 = n / d := by unfold rnd; rw [if_pos rfl]
theorem md_down {a b c : Int} (hc : 0 < c) (h : isI64 (a * b / c)) : md a b c 1 = a * b / c := by
  rw [md_pos hc (by decide) (by decide), rnd_down, hold64_id _ h]
end Go.Proofs.Ytlgfnclgkhfhpaa.P
end

section
namespace Go.Proofs.Ytlgfnclgkhfhpaa.P
open Go.RowKit Go.Proofs.YtlgfnclgkhfhpaaW.PrintWords Go.Proofs.YtlgfnclgkhfhpaaW.PrintLast Go.Proofs.YtlgfnclgkhfhpaaW.PrintMore
set_option linter.unusedVariables false
set_option linter.unusedSimpArgs false
set_option maxRecDepth 100000 in
theorem wakes26 : flywheellaw26_wakes.f = some true := by kernel_rfl
theorem wk26 : ((flywheellaw26_wakes.f).bind fun t => some t) = some true := by rw [wakes26]; rfl
theorem wnn (i : Nat) (h : i ≤ 4611686018427387904) : wrap64 ((i : Int) + 1) = ((i + 1 : Nat) : Int) := by rw [wrap64_id (isI64_mk (by omega) (by omega))]; omega
def rv (a t : Int) : Int := md a 8000000 t 1
theorem rate_eq {a t : Int} (ha : isI64 a) (ht : isI64 t) : units_Rate.f a t = some (rv a t) := by
  unfold units_Rate.f
  rw [do_eq 1 ha (isI64_mk (by decide) (by decide)) ht]
  rfl
theorem rv_pos {a t : Int} (ht : 0 < t) : rv a t = (hold64 (a * 8000000 / t)).1 := by
  unfold rv
  rw [md_pos ht (by decide) (by decide), rnd_down]
theorem rv_nonneg {a t : Int} (ht : 0 < t) (ha : 0 ≤ a) : 0 ≤ rv a t := by
  rw [rv_pos ht]
  have h : 0 ≤ a * 8000000 / t := Int.ediv_nonneg (by omega) (by omega)
  have := hold64_mono h
  have e : (hold64 0).1 = 0 := by decide
  omega
theorem bytes_eq {r : Int} (hr : isI64 r) : units_Bytes.f r 15000 = some (md r 15000 8000000 1) := by
  unfold units_Bytes.f units_rate_bytes.f
  rw [do_eq 1 hr (isI64_mk (by decide) (by decide)) (isI64_mk (by decide) (by decide))]
  rfl
theorem good_eq {s a : Int} (h1 : 1 ≤ s) (h2 : s ≤ 1500) (h3 : 0 ≤ a) (h4 : a ≤ 1125899906842624) : probe_good.f s a = some true := by
  unfold probe_good.f
  rw [if_pos (by omega), if_pos h2, if_pos (by omega), decide_eq_true h4]
def resv (asked count bytes fr to_ ls ea la fs : Int) : Int :=
  if count < 4 ∨ bytes < Int.tdiv asked 2 ∨ to_ ≤ fr ∨ la ≤ ea then 0 else mn (rv (bytes - ls) (to_ - fr)) (rv (bytes - fs) (la - ea))
def CI (asked count bytes fr to_ ls ea la fs : Int) : Prop :=
  0 ≤ asked ∧ asked ≤ 1000000000 ∧ 0 ≤ count ∧ count ≤ 1000000 ∧ 0 ≤ bytes ∧ bytes ≤ 1500000000 ∧ 0 ≤ fr ∧ fr ≤ 1125899906842624 ∧ 0 ≤ to_ ∧ to_ ≤ 1125899906842624 ∧ 0 ≤ ls ∧ ls ≤ bytes ∧ -1125899906842624 ≤ ea ∧ ea ≤ 1125899906842624 ∧ -1125899906842624 ≤ la ∧ la ≤ 1125899906842624 ∧ 0 ≤ fs ∧ fs ≤ bytes
theorem result_eq {rate left asked count bytes fr to_ ls ea la fs : Int} (k : Nat) (hk : 1 ≤ k) (h : CI asked count bytes fr to_ ls ea la fs) :
    probe_cluster_result.f k rate asked left count bytes fr to_ ls ea la fs = some (resv asked count bytes fr to_ ls ea la fs, rate, asked, left, count, bytes, fr, to_, ls, ea, la, fs) := by
  obtain ⟨k, rfl⟩ : ∃ j, k = j + 1 := ⟨k - 1, by omega⟩
  unfold CI at h
  have ht : 0 ≤ Int.tdiv asked 2 ∧ Int.tdiv asked 2 ≤ asked := by
    rw [Int.tdiv_eq_ediv_of_nonneg (by omega)]; omega
  unfold probe_cluster_result.f resv
  rw [wrap64_id (a := Int.tdiv asked 2) (isI64_mk (by omega) (by omega))]
  simp only [probe_cluster_result.j0, if_true]
  by_cases c1 : count < 4
  · rw [if_pos c1, if_pos (.inl c1)]
  rw [if_neg c1]
  by_cases c2 : bytes < Int.tdiv asked 2
  · rw [if_pos c2, if_pos (.inr (.inl c2))]
  rw [if_neg c2]
  by_cases c3 : to_ ≤ fr
  · rw [if_pos c3, if_pos (.inr (.inr (.inl c3)))]
  rw [if_neg c3]
  by_cases c4 : la ≤ ea
  · rw [decide_eq_true c4, if_pos rfl, if_pos (.inr (.inr (.inr c4)))]
  rw [decide_eq_false c4, if_neg (by simp), if_neg (by omega), wrap64_id (a := bytes - ls) (isI64_mk (by omega) (by omega)), wrap64_id (a := to_ - fr) (isI64_mk (by omega) (by omega)), wrap64_id (a := bytes - fs) (isI64_mk (by omega) (by omega)), wrap64_id (a := la - ea) (isI64_mk (by omega) (by omega)),
    rate_eq (isI64_mk (by omega) (by omega)) (isI64_mk (by omega) (by omega)), rate_eq (isI64_mk (by omega) (by omega)) (isI64_mk (by omega) (by omega))]
  rfl
theorem resv_nonneg {asked count bytes fr to_ ls ea la fs : Int} (h : CI asked count bytes fr to_ ls ea la fs) : 0 ≤ resv asked count bytes fr to_ ls ea la fs := by
  unfold CI at h
  unfold resv
  split
  · omega
  · have h1 := rv_nonneg (a := bytes - ls) (t := to_ - fr) (by omega) (by omega)
    have h2 := rv_nonneg (a := bytes - fs) (t := la - ea) (by omega) (by omega)
    unfold mn
    split <;> omega
def t_to (count to_ a : Int) : Int := if count = 0 ∨ to_ ≤ a then a else to_
def t_ls (count to_ ls a s : Int) : Int := if count = 0 ∨ to_ ≤ a then s else ls
def t_ea (count ea c : Int) : Int := if count = 0 ∨ c < ea then c else ea
def t_fs (count ea fs c s : Int) : Int := if count = 0 ∨ c < ea then s else fs
def t_fr (count fr a : Int) : Int := mn (if count = 0 then a else fr) a
def t_la (count la c : Int) : Int := mx (if count = 0 then c else la) c
theorem CI.next {asked count bytes fr to_ ls ea la fs s a c : Int} (h : CI asked count bytes fr to_ ls ea la fs) (hc : count < 1000000) (hb : bytes ≤ 1499998500) (s1 : 1 ≤ s) (s2 : s ≤ 1500) (a1 : 0 ≤ a) (a2 : a ≤ 1125899906842624) (c1 : -1125899906842624 ≤ c) (c2 : c ≤ 1125899906842624) :
    CI asked (count + 1) (bytes + s) (t_fr count fr a) (t_to count to_ a) (t_ls count to_ ls a s) (t_ea count ea c) (t_la count la c) (t_fs count ea fs c s) := by
  unfold CI at h ⊢
  obtain ⟨h1, h2, h3, h4, h5, h6, h7, h8, h9, h10, h11, h12, h13, h14, h15, h16, h17, h18⟩ := h
  unfold t_fr t_to t_ls t_ea t_la t_fs mn mx
  refine ⟨h1, h2, by omega, by omega, by omega, by omega, ?_, ?_, ?_, ?_, ?_, ?_, ?_, ?_, ?_, ?_, ?_, ?_⟩
  all_goals (repeat' split)
  all_goals omega
theorem got_eq {open_ best rate left asked count bytes fr to_ ls ea la fs s a c : Int} (k : Nat) (hk : 1 ≤ k) (h : CI asked count bytes fr to_ ls ea la fs) (hc : count < 1000000) (hb : bytes ≤ 1499998500) (s1 : 1 ≤ s) (s2 : s ≤ 1500) (a1 : 0 ≤ a) (a2 : a ≤ 1125899906842624) (c1 : -1125899906842624 ≤ c) (c2 : c ≤ 1125899906842624) (next : Int) :
    probe_Probe_Got.f k next open_ best 1 rate asked left count bytes fr to_ ls ea la fs 1 s a c =
      some (resv asked (count + 1) (bytes + s) (t_fr count fr a) (t_to count to_ a) (t_ls count to_ ls a s) (t_ea count ea c) (t_la count la c) (t_fs count ea fs c s), next, open_,
        mx best (resv asked (count + 1) (bytes + s) (t_fr count fr a) (t_to count to_ a) (t_ls count to_ ls a s) (t_ea count ea c) (t_la count la c) (t_fs count ea fs c s)), 1,
        rate, asked, left, count + 1, bytes + s, t_fr count fr a, t_to count to_ a, t_ls count to_ ls a s, t_ea count ea c, t_la count la c, t_fs count ea fs c s) := by
  have hn := h.next hc hb s1 s2 a1 a2 c1 c2
  have w1 : wrap64 (count + 1) = count + 1 := wrap64_id (isI64_mk (by unfold CI at h; omega) (by unfold CI at h; omega))
  have w2 : wrap64 (bytes + s) = bytes + s := wrap64_id (isI64_mk (by unfold CI at h; omega) (by unfold CI at h; omega))
  unfold probe_Probe_Got.f
  rw [good_eq s1 s2 a1 a2]
  simp only [Option.bind_some, if_true]
  rw [if_neg (by omega), if_neg (by omega)]
  have key : ∀ (T L E F R A : Int), T = t_to count to_ a → L = t_ls count to_ ls a s → E = t_ea count ea c → F = t_fs count ea fs c s → mn R a = t_fr count fr a → mx A c = t_la count la c →
      gotu k next open_ best 1 rate asked left count bytes fr to_ ls ea la fs s a c T L E F R A = some (resv asked (count + 1) (bytes + s) (t_fr count fr a) (t_to count to_ a) (t_ls count to_ ls a s) (t_ea count ea c) (t_la count la c) (t_fs count ea fs c s), next, open_,
        mx best (resv asked (count + 1) (bytes + s) (t_fr count fr a) (t_to count to_ a) (t_ls count to_ ls a s) (t_ea count ea c) (t_la count la c) (t_fs count ea fs c s)), 1,
        rate, asked, left, count + 1, bytes + s, t_fr count fr a, t_to count to_ a, t_ls count to_ ls a s, t_ea count ea c, t_la count la c, t_fs count ea fs c s) := by
    intro T L E F R A e1 e2 e3 e4 e5 e6
    subst e1 e2 e3 e4
    unfold gotu
    simp only [Option.bind_some]
    rw [e5, e6, w1, w2, result_eq k hk hn]
    rfl
  by_cases q : count = 0
  · rw [if_pos q]
    refine key _ _ _ _ _ _ ?_ ?_ ?_ ?_ ?_ ?_
    all_goals first | (unfold t_to; rw [if_pos (.inl q)]) | (unfold t_ls; rw [if_pos (.inl q)]) | (unfold t_ea; rw [if_pos (.inl q)]) | (unfold t_fs; rw [if_pos (.inl q)]) | (unfold t_fr; rw [if_pos q]) | (unfold t_la; rw [if_pos q])
  · rw [if_neg q]
    by_cases u : to_ ≤ a
    · rw [if_pos u]
      by_cases v : c < ea
      · rw [if_pos v]
        refine key _ _ _ _ _ _ ?_ ?_ ?_ ?_ ?_ ?_
        all_goals first | (unfold t_to; rw [if_pos (.inr u)]) | (unfold t_ls; rw [if_pos (.inr u)]) | (unfold t_ea; rw [if_pos (.inr v)]) | (unfold t_fs; rw [if_pos (.inr v)]) | (unfold t_fr; rw [if_neg q]) | (unfold t_la; rw [if_neg q])
      · rw [if_neg v]
        have v' : ¬ (count = 0 ∨ c < ea) := by omega
        refine key _ _ _ _ _ _ ?_ ?_ ?_ ?_ ?_ ?_
        all_goals first | (unfold t_to; rw [if_pos (.inr u)]) | (unfold t_ls; rw [if_pos (.inr u)]) | (unfold t_ea; rw [if_neg v']) | (unfold t_fs; rw [if_neg v']) | (unfold t_fr; rw [if_neg q]) | (unfold t_la; rw [if_neg q])
    · rw [if_neg u]
      have u' : ¬ (count = 0 ∨ to_ ≤ a) := by omega
      by_cases v : c < ea
      · rw [if_pos v]
        refine key _ _ _ _ _ _ ?_ ?_ ?_ ?_ ?_ ?_
        all_goals first | (unfold t_to; rw [if_neg u']) | (unfold t_ls; rw [if_neg u']) | (unfold t_ea; rw [if_pos (.inr v)]) | (unfold t_fs; rw [if_pos (.inr v)]) | (unfold t_fr; rw [if_neg q]) | (unfold t_la; rw [if_neg q])
      · rw [if_neg v]
        have v' : ¬ (count = 0 ∨ c < ea) := by omega
        refine key _ _ _ _ _ _ ?_ ?_ ?_ ?_ ?_ ?_
        all_goals first | (unfold t_to; rw [if_neg u']) | (unfold t_ls; rw [if_neg u']) | (unfold t_ea; rw [if_neg v']) | (unfold t_fs; rw [if_neg v']) | (unfold t_fr; rw [if_neg q]) | (unfold t_la; rw [if_neg q])
def askv (r : Int) : Int := mx (md r 15000 8000000 1) 6000
theorem ask_span {r : Int} (h1 : 1 ≤ r) (h2 : r ≤ 17179869184) : 6000 ≤ askv r ∧ askv r ≤ 1000000000 := by
  have e : md r 15000 8000000 1 = r * 15000 / 8000000 := md_down (by decide) (isI64_mk (by omega) (by omega))
  unfold askv mx
  rw [e]
  split <;> omega
theorem pstart_eq {r : Int} (h1 : 1 ≤ r) (h2 : r ≤ 17179869184) : probe_Probe_Start.f 0 0 0 0 0 0 0 0 0 0 0 0 0 0 0 r = some (1, 1, 1, 0, 1, r, askv r, askv r, 0, 0, 0, 0, 0, 0, 0, 0) := by
  unfold probe_Probe_Start.f
  rw [if_neg (by omega), if_neg (by omega), if_neg (by decide), if_pos ⟨rfl, rfl⟩, bytes_eq (isI64_mk (by omega) (by omega))]
  rfl
end Go.Proofs.Ytlgfnclgkhfhpaa.P
end

section
namespace Go.Proofs.Ytlgfnclgkhfhpaa.Pure
open Go.RowKit Go.Proofs.Ytlgfnclgkhfhpaa.P Go.Proofs.YtlgfnclgkhfhpaaW.PrintWords Go.Proofs.YtlgfnclgkhfhpaaW.PrintLast Go.Proofs.YtlgfnclgkhfhpaaW.PrintMore
set_option linter.unusedVariables false
set_option linter.unusedSimpArgs false
theorem mod_span {a n : Int} (h1 : 1 ≤ n) (h2 : n ≤ 4611686018427387904) (ha : isI64 a) : (∃ t, flywheelkeep_Mod.f a n = some t ∧ 0 ≤ t ∧ t < n) ∧ ∃ t, flywheelkeep_Mod64.f a n = some t ∧ 0 ≤ t ∧ t < n := by
  unfold flywheelkeep_Mod.f flywheelkeep_Mod64.f
  have q1 : -n < Int.tmod a n ∧ Int.tmod a n < n := ⟨Int.lt_tmod_of_pos a (by omega), Int.tmod_lt_of_pos a (by omega)⟩
  have n0 : ¬ n = 0 := by omega
  have n1 : ¬ n < 1 := by omega
  simp only [n0, n1, if_false]
  rw [wrap64_id (isI64_mk (by omega) (by omega))]
  have q2 := Int.tmod_nonneg n (show 0 ≤ Int.tmod a n + n by omega)
  have q3 := Int.tmod_lt_of_pos (Int.tmod a n + n) (show 0 < n by omega)
  exact ⟨⟨_, rfl, q2, q3⟩, _, rfl, q2, q3⟩
theorem rd42_mem {l : List S42} {i : Nat} (h : i < l.length) : rd_T42 l (i : Int) ∈ l := by
  unfold rd_T42
  simp [h]
theorem ProbeFew : flywheellaw26_ProbeFew.Pure := by
  intro a l b ha _ _ hl hb
  have wf : ∀ i : Nat, i < l.length → isI64 (rd_T42 l (i : Int)).f2 ∧ isI64 (rd_T42 l (i : Int)).f4 ∧ isI64 (rd_T42 l (i : Int)).f5 := fun i hi => by
    have h := hl _ (rd42_mem hi)
    exact ⟨isI64_of_wf h.2.2.1, isI64_of_wf h.2.2.2.2.1, isI64_of_wf h.2.2.2.2.2⟩
  refine ⟨200, ?_⟩
  obtain ⟨t, et, t0, t1⟩ := (mod_span (n := 17179869184) (by decide) (by decide) (isI64_of_wf ha)).2
  have sp := ask_span (r := 1 + t) (by omega) (by omega)
  have fin : ∀ (i k : Nat) (best r n count bytes fr to_ ls ea la fs got : Int), 2 ≤ k → CI n count bytes fr to_ ls ea la fs → count < 1000000 → bytes ≤ 1499998500 →
      flywheellaw26_ProbeFew.j1 k l b n got i false 1 1 best 1 r n n count bytes fr to_ ls ea la fs = some true := by
    intro i k best r n count bytes fr to_ ls ea la fs got hk h hc hby
    obtain ⟨k, rfl⟩ : ∃ j, k = j + 1 := ⟨k - 1, by omega⟩
    simp only [flywheellaw26_ProbeFew.j1, Bool.false_eq_true, if_false]
    by_cases c : b = 1
    · rw [if_pos c]; exact wk26
    · rw [if_neg c]
      have e : probe_Probe_Got.f k 1 1 best 1 r n n count bytes fr to_ ls ea la fs b 1200 5 5 = some (0, 1, 1, best, 1, r, n, n, count, bytes, fr, to_, ls, ea, la, fs) := by
        unfold probe_Probe_Got.f
        rw [good_eq (by decide) (by decide) (by decide) (by decide)]
        simp only [Option.bind_some, if_true]
        rw [if_neg (by decide), if_neg (by decide), if_neg c]
      rw [e]
      simp only [Option.bind_some, if_true]
      exact wk26
  have loop : ∀ (m i k : Nat) (best r n bytes fr to_ ls ea la fs : Int), i + m = 60 → 2 * m + 10 ≤ k → CI n i bytes fr to_ ls ea la fs → 6000 ≤ n → bytes ≤ 1500 * (i : Int) →
      flywheellaw26_ProbeFew.l0 k l b n bytes i 1 1 best 1 r n n i bytes fr to_ ls ea la fs = some true := by
    intro m
    induction m with
    | zero =>
      intro i k best r n bytes fr to_ ls ea la fs hi hk h hn hby
      obtain ⟨k, rfl⟩ : ∃ j, k = j + 1 := ⟨k - 1, by omega⟩
      simp only [flywheellaw26_ProbeFew.l0]
      rw [show decide ((i : Int) < 60) = false from decide_eq_false (by omega)]
      split <;> exact fin i k _ _ _ _ _ _ _ _ _ _ _ _ (by omega) h (by omega) (by omega)
    | succ m ih =>
      intro i k best r n bytes fr to_ ls ea la fs hi hk h hn hby
      obtain ⟨k, rfl⟩ : ∃ j, k = j + 2 := ⟨k - 2, by omega⟩
      simp only [flywheellaw26_ProbeFew.l0]
      by_cases c : (i : Int) < (l.length : Int)
      · rw [if_pos c, show decide ((i : Int) < 60) = true from decide_eq_true (by omega)]
        obtain ⟨w2, w4, w5⟩ := wf i (by omega)
        simp only [flywheellaw26_ProbeFew.j1, if_true]
        rw [if_pos (show (0 : Int) ≤ (i : Int) by omega), if_pos c]
        obtain ⟨s, es, s0, s1⟩ := (mod_span (n := 1500) (by decide) (by decide) w2).1
        obtain ⟨u, eu, u0, u1⟩ := (mod_span (n := 1099511627776) (by decide) (by decide) w4).2
        have q1 : -1099511627776 < Int.tmod (rd_T42 l (i : Int)).f5 1099511627776 ∧ Int.tmod (rd_T42 l (i : Int)).f5 1099511627776 < 1099511627776 := ⟨Int.lt_tmod_of_pos _ (by decide), Int.tmod_lt_of_pos _ (by decide)⟩
        generalize Int.tmod (rd_T42 l (i : Int)).f5 1099511627776 = v at q1 ⊢
        rw [es, eu]
        simp only [Option.bind_some]
        rw [wrap64_id (a := 1 + s) (isI64_mk (by omega) (by omega)), got_eq k (by omega) h (by omega) (by omega) (by omega) (by omega) u0 (by omega) (by omega) (by omega)]
        have hn' := h.next (s := 1 + s) (a := u) (c := v) (by omega) (by omega) (by omega) (by omega) u0 (by omega) (by omega) (by omega)
        have hr := resv_nonneg hn'
        have rz : resv n ((i : Int) + 1) (bytes + (1 + s)) (t_fr i fr u) (t_to i to_ u) (t_ls i to_ ls u (1 + s)) (t_ea i ea v) (t_la i la v) (t_fs i ea fs v (1 + s)) > 0 → 4 ≤ (i : Int) + 1 ∧ Int.tdiv n 2 ≤ bytes + (1 + s) := by
          intro hp
          unfold resv at hp
          split at hp
          · omega
          · omega
        simp only [Option.bind_some]
        have hb0 : 0 ≤ bytes ∧ n ≤ 1000000000 := by unfold CI at h; omega
        have wt : wrap64 (Int.tdiv n 2) = Int.tdiv n 2 := by
          rw [Int.tdiv_eq_ediv_of_nonneg (by omega)]
          exact wrap64_id (isI64_mk (by omega) (by omega))
        rw [if_neg (by omega), wt, wrap64_id (a := bytes + (1 + s)) (isI64_mk (by omega) (by omega)), wnn i (by omega)]
        have nx := ih (i + 1) (k + 1 - 1) (mx best (resv n ((i : Int) + 1) (bytes + (1 + s)) (t_fr i fr u) (t_to i to_ u) (t_ls i to_ ls u (1 + s)) (t_ea i ea v) (t_la i la v) (t_fs i ea fs v (1 + s)))) r n (bytes + (1 + s)) (t_fr i fr u) (t_to i to_ u) (t_ls i to_ ls u (1 + s)) (t_ea i ea v) (t_la i la v) (t_fs i ea fs v (1 + s)) (by omega) (by omega) (by rw [show ((i + 1 : Nat) : Int) = (i : Int) + 1 by omega]; exact hn') hn (by omega)
        rw [show k + 1 - 1 = k by omega, show ((i + 1 : Nat) : Int) = (i : Int) + 1 by omega] at nx
        rw [show ((i + 1 : Nat) : Int) = (i : Int) + 1 by omega]
        split
        · rename_i hp
          have := rz hp
          rw [if_neg (by omega), if_neg (by omega)]
          exact nx
        · exact nx
      · rw [if_neg c]
        exact fin i (k + 1) _ _ _ _ _ _ _ _ _ _ _ _ (by omega) h (by omega) (by omega)
  unfold flywheellaw26_ProbeFew.f probe_New.f
  simp only [Option.bind_some]
  rw [et]
  simp only [Option.bind_some]
  rw [wrap64_id (a := 1 + t) (isI64_mk (by omega) (by omega)), pstart_eq (by omega) (by omega)]
  simp only [Option.bind_some, if_true]
  have eo : probe_Probe_Open.f 1 1 0 1 (1 + t) (askv (1 + t)) (askv (1 + t)) 0 0 0 0 0 0 0 0 = some (1, 1 + t, askv (1 + t), 1, 1, 0, 1, 1 + t, askv (1 + t), askv (1 + t), 0, 0, 0, 0, 0, 0, 0, 0) := by
    unfold probe_Probe_Open.f
    rw [if_neg (by decide), if_pos ⟨rfl, rfl⟩]
  rw [eo]
  simp only [Option.bind_some]
  exact loop 60 0 200 0 (1 + t) (askv (1 + t)) 0 0 0 0 0 0 0 (by omega) (by omega) (by unfold CI; omega) sp.1 (by decide)
end Go.Proofs.Ytlgfnclgkhfhpaa.Pure
end

section

end

-- PUT TOGETHER by a program of this session: of the claim's texts, what is used
import Derived.Test.YtlgfnclgkhfhpaaKProbeLeast7
import Derived.Test.YtlgfnclgkhfhpaaKProbeLeast8
import Derived.Test.YtlgfnclgkhfhpaaKProbeLeast9
import Derived.WalkArith
import Derived.KernelRfl
section
namespace Go.Proofs.Ytlgfnclgkhfhpaa.P
open Go.RowKit
set_option linter.unusedVariables false
set_option linter.unusedSimpArgs false
def md (a b c how : Int) : Int := (mdq a b c how).1
theorem isI64_of_wf {a : Int} (h : (Lit.int .i64 a).wf = true) : isI64 a := by
  simp only [Lit.wf, IntKind.min, IntKind.max, IntKind.signed, IntKind.bits, Bool.and_eq_true, decide_eq_true_eq] at h
  unfold isI64; simp at h; omega
theorem wrap64_id {a : Int} (h : isI64 a) : wrap64 a = a := by unfold isI64 at h; unfold wrap64; omega
theorem isI64_mk {a : Int} (h : -9223372036854775808 ≤ a) (h' : a ≤ 9223372036854775807) : isI64 a := ⟨h, h'⟩
theorem hold64_id (q : Int) (h : isI64 q) : hold64 q = (q, true) := by
  unfold isI64 at h; unfold hold64
  rw [if_neg (by omega), if_neg (by omega)]
theorem hold64_mono {p q : Int} (h : p ≤ q) : (hold64 p).1 ≤ (hold64 q).1 := by
  unfold hold64
  repeat' split
  all_goals (simp only []; omega)
theorem do_eq {a b c : Int} (how : Int) (ha : isI64 a) (hb : isI64 b) (hc : isI64 c) : muldiv_Do.f a b c how = some (md a b c how) := by
  unfold muldiv_Do.f muldiv_quotient_s.f
  rw [if_pos ⟨ha, hb, hc⟩]; rfl
theorem md_pos {a b c how : Int} (hc : 0 < c) (h1 : 1 ≤ how) (h3 : how ≤ 3) : md a b c how = (hold64 (rnd (a * b) c how)).1 := by
  unfold md mdq
  rw [if_neg (by omega), if_neg (by omega)]
theorem rnd_down (n d : Int) : rnd n d 1 = n / d := by unfold rnd; rw [if_pos rfl]
theorem md_down {a b c : Int} (hc : 0 < c) (h : isI64 (a * b / c)) : md a b c 1 = a * b / c := by
  rw [md_pos hc (by decide) (by decide), rnd_down, hold64_id _ h]
end Go.Proofs.Ytlgfnclgkhfhpaa.P
end

section
namespace Go.Proofs.Ytlgfnclgkhfhpaa.P
open Go.RowKit Go.Proofs.YtlgfnclgkhfhpaaW.PrintWords Go.Proofs.YtlgfnclgkhfhpaaW.PrintLast Go.Proofs.YtlgfnclgkhfhpaaW.PrintMore
set_option linter.unusedVariables false
set_option linter.unusedSimpArgs false
set_option maxRecDepth 100000 in
theorem wakes26 : flywheellaw26_wakes.f = some true := by kernel_rfl
theorem wk26 : ((flywheellaw26_wakes.f).bind fun t => some t) = some true := by rw [wakes26]; rfl
theorem wnn (i : Nat) (h : i ≤ 4611686018427387904) : wrap64 ((i : Int) + 1) = ((i + 1 : Nat) : Int) := by rw [wrap64_id (isI64_mk (by omega) (by omega))]; omega
def rv (a t : Int) : Int := md a 8000000 t 1
theorem rate_eq {a t : Int} (ha : isI64 a) (ht : isI64 t) : units_Rate.f a t = some (rv a t) := by
  unfold units_Rate.f
  rw [do_eq 1 ha (isI64_mk (by decide) (by decide)) ht]
  rfl
theorem rv_pos {a t : Int} (ht : 0 < t) : rv a t = (hold64 (a * 8000000 / t)).1 := by
  unfold rv
  rw [md_pos ht (by decide) (by decide), rnd_down]
theorem rv_nonneg {a t : Int} (ht : 0 < t) (ha : 0 ≤ a) : 0 ≤ rv a t := by
  rw [rv_pos ht]
  have h : 0 ≤ a * 8000000 / t := Int.ediv_nonneg (by omega) (by omega)
  have := hold64_mono h
  have e : (hold64 0).1 = 0 := by decide
  omega
theorem rv_mono {a b t : Int} (ht : 0 < t) (h : a ≤ b) : rv a t ≤ rv b t := by
  rw [rv_pos ht, rv_pos ht]
  exact hold64_mono (Int.ediv_le_ediv ht (by omega))
theorem bytes_eq {r : Int} (hr : isI64 r) : units_Bytes.f r 15000 = some (md r 15000 8000000 1) := by
  unfold units_Bytes.f units_rate_bytes.f
  rw [do_eq 1 hr (isI64_mk (by decide) (by decide)) (isI64_mk (by decide) (by decide))]
  rfl
theorem good_eq {s a : Int} (h1 : 1 ≤ s) (h2 : s ≤ 1500) (h3 : 0 ≤ a) (h4 : a ≤ 1125899906842624) : probe_good.f s a = some true := by
  unfold probe_good.f
  rw [if_pos (by omega), if_pos h2, if_pos (by omega), decide_eq_true h4]
def resv (asked count bytes fr to_ ls ea la fs : Int) : Int :=
  if count < 4 ∨ bytes < Int.tdiv asked 2 ∨ to_ ≤ fr ∨ la ≤ ea then 0 else mn (rv (bytes - ls) (to_ - fr)) (rv (bytes - fs) (la - ea))
def CI (asked count bytes fr to_ ls ea la fs : Int) : Prop :=
  0 ≤ asked ∧ asked ≤ 1000000000 ∧ 0 ≤ count ∧ count ≤ 1000000 ∧ 0 ≤ bytes ∧ bytes ≤ 1500000000 ∧ 0 ≤ fr ∧ fr ≤ 1125899906842624 ∧ 0 ≤ to_ ∧ to_ ≤ 1125899906842624 ∧ 0 ≤ ls ∧ ls ≤ bytes ∧ -1125899906842624 ≤ ea ∧ ea ≤ 1125899906842624 ∧ -1125899906842624 ≤ la ∧ la ≤ 1125899906842624 ∧ 0 ≤ fs ∧ fs ≤ bytes
theorem result_eq {rate left asked count bytes fr to_ ls ea la fs : Int} (k : Nat) (hk : 1 ≤ k) (h : CI asked count bytes fr to_ ls ea la fs) :
    probe_cluster_result.f k rate asked left count bytes fr to_ ls ea la fs = some (resv asked count bytes fr to_ ls ea la fs, rate, asked, left, count, bytes, fr, to_, ls, ea, la, fs) := by
  obtain ⟨k, rfl⟩ : ∃ j, k = j + 1 := ⟨k - 1, by omega⟩
  unfold CI at h
  have ht : 0 ≤ Int.tdiv asked 2 ∧ Int.tdiv asked 2 ≤ asked := by
    rw [Int.tdiv_eq_ediv_of_nonneg (by omega)]; omega
  unfold probe_cluster_result.f resv
  rw [wrap64_id (a := Int.tdiv asked 2) (isI64_mk (by omega) (by omega))]
  simp only [probe_cluster_result.j0, if_true]
  by_cases c1 : count < 4
  · rw [if_pos c1, if_pos (.inl c1)]
  rw [if_neg c1]
  by_cases c2 : bytes < Int.tdiv asked 2
  · rw [if_pos c2, if_pos (.inr (.inl c2))]
  rw [if_neg c2]
  by_cases c3 : to_ ≤ fr
  · rw [if_pos c3, if_pos (.inr (.inr (.inl c3)))]
  rw [if_neg c3]
  by_cases c4 : la ≤ ea
  · rw [decide_eq_true c4, if_pos rfl, if_pos (.inr (.inr (.inr c4)))]
  rw [decide_eq_false c4, if_neg (by simp), if_neg (by omega), wrap64_id (a := bytes - ls) (isI64_mk (by omega) (by omega)), wrap64_id (a := to_ - fr) (isI64_mk (by omega) (by omega)), wrap64_id (a := bytes - fs) (isI64_mk (by omega) (by omega)), wrap64_id (a := la - ea) (isI64_mk (by omega) (by omega)),
    rate_eq (isI64_mk (by omega) (by omega)) (isI64_mk (by omega) (by omega)), rate_eq (isI64_mk (by omega) (by omega)) (isI64_mk (by omega) (by omega))]
  rfl
theorem resv_nonneg {asked count bytes fr to_ ls ea la fs : Int} (h : CI asked count bytes fr to_ ls ea la fs) : 0 ≤ resv asked count bytes fr to_ ls ea la fs := by
  unfold CI at h
  unfold resv
  split
  · omega
  · have h1 := rv_nonneg (a := bytes - ls) (t := to_ - fr) (by omega) (by omega)
    have h2 := rv_nonneg (a := bytes - fs) (t := la - ea) (by omega) (by omega)
    unfold mn
    split <;> omega
def t_to (count to_ a : Int) : Int := if count = 0 ∨ to_ ≤ a then a else to_
def t_ls (count to_ ls a s : Int) : Int := if count = 0 ∨ to_ ≤ a then s else ls
def t_ea (count ea c : Int) : Int := if count = 0 ∨ c < ea then c else ea
def t_fs (count ea fs c s : Int) : Int := if count = 0 ∨ c < ea then s else fs
def t_fr (count fr a : Int) : Int := mn (if count = 0 then a else fr) a
def t_la (count la c : Int) : Int := mx (if count = 0 then c else la) c
theorem CI.next {asked count bytes fr to_ ls ea la fs s a c : Int} (h : CI asked count bytes fr to_ ls ea la fs) (hc : count < 1000000) (hb : bytes ≤ 1499998500) (s1 : 1 ≤ s) (s2 : s ≤ 1500) (a1 : 0 ≤ a) (a2 : a ≤ 1125899906842624) (c1 : -1125899906842624 ≤ c) (c2 : c ≤ 1125899906842624) :
    CI asked (count + 1) (bytes + s) (t_fr count fr a) (t_to count to_ a) (t_ls count to_ ls a s) (t_ea count ea c) (t_la count la c) (t_fs count ea fs c s) := by
  unfold CI at h ⊢
  obtain ⟨h1, h2, h3, h4, h5, h6, h7, h8, h9, h10, h11, h12, h13, h14, h15, h16, h17, h18⟩ := h
  unfold t_fr t_to t_ls t_ea t_la t_fs mn mx
  refine ⟨h1, h2, by omega, by omega, by omega, by omega, ?_, ?_, ?_, ?_, ?_, ?_, ?_, ?_, ?_, ?_, ?_, ?_⟩
  all_goals (repeat' split)
  all_goals omega
theorem got_eq {open_ best rate left asked count bytes fr to_ ls ea la fs s a c : Int} (k : Nat) (hk : 1 ≤ k) (h : CI asked count bytes fr to_ ls ea la fs) (hc : count < 1000000) (hb : bytes ≤ 1499998500) (s1 : 1 ≤ s) (s2 : s ≤ 1500) (a1 : 0 ≤ a) (a2 : a ≤ 1125899906842624) (c1 : -1125899906842624 ≤ c) (c2 : c ≤ 1125899906842624) (next : Int) :
    probe_Probe_Got.f k next open_ best 1 rate asked left count bytes fr to_ ls ea la fs 1 s a c =
      some (resv asked (count + 1) (bytes + s) (t_fr count fr a) (t_to count to_ a) (t_ls count to_ ls a s) (t_ea count ea c) (t_la count la c) (t_fs count ea fs c s), next, open_,
        mx best (resv asked (count + 1) (bytes + s) (t_fr count fr a) (t_to count to_ a) (t_ls count to_ ls a s) (t_ea count ea c) (t_la count la c) (t_fs count ea fs c s)), 1,
        rate, asked, left, count + 1, bytes + s, t_fr count fr a, t_to count to_ a, t_ls count to_ ls a s, t_ea count ea c, t_la count la c, t_fs count ea fs c s) := by
  have hn := h.next hc hb s1 s2 a1 a2 c1 c2
  have w1 : wrap64 (count + 1) = count + 1 := wrap64_id (isI64_mk (by unfold CI at h; omega) (by unfold CI at h; omega))
  have w2 : wrap64 (bytes + s) = bytes + s := wrap64_id (isI64_mk (by unfold CI at h; omega) (by unfold CI at h; omega))
  unfold probe_Probe_Got.f
  rw [good_eq s1 s2 a1 a2]
  simp only [Option.bind_some, if_true]
  rw [if_neg (by omega), if_neg (by omega)]
  have key : ∀ (T L E F R A : Int), T = t_to count to_ a → L = t_ls count to_ ls a s → E = t_ea count ea c → F = t_fs count ea fs c s → mn R a = t_fr count fr a → mx A c = t_la count la c →
      gotu k next open_ best 1 rate asked left count bytes fr to_ ls ea la fs s a c T L E F R A = some (resv asked (count + 1) (bytes + s) (t_fr count fr a) (t_to count to_ a) (t_ls count to_ ls a s) (t_ea count ea c) (t_la count la c) (t_fs count ea fs c s), next, open_,
        mx best (resv asked (count + 1) (bytes + s) (t_fr count fr a) (t_to count to_ a) (t_ls count to_ ls a s) (t_ea count ea c) (t_la count la c) (t_fs count ea fs c s)), 1,
        rate, asked, left, count + 1, bytes + s, t_fr count fr a, t_to count to_ a, t_ls count to_ ls a s, t_ea count ea c, t_la count la c, t_fs count ea fs c s) := by
    intro T L E F R A e1 e2 e3 e4 e5 e6
    subst e1 e2 e3 e4
    unfold gotu
    simp only [Option.bind_some]
    rw [e5, e6, w1, w2, result_eq k hk hn]
    rfl
  by_cases q : count = 0
  · rw [if_pos q]
    refine key _ _ _ _ _ _ ?_ ?_ ?_ ?_ ?_ ?_
    all_goals first | (unfold t_to; rw [if_pos (.inl q)]) | (unfold t_ls; rw [if_pos (.inl q)]) | (unfold t_ea; rw [if_pos (.inl q)]) | (unfold t_fs; rw [if_pos (.inl q)]) | (unfold t_fr; rw [if_pos q]) | (unfold t_la; rw [if_pos q])
  · rw [if_neg q]
    by_cases u : to_ ≤ a
    · rw [if_pos u]
      by_cases v : c < ea
      · rw [if_pos v]
        refine key _ _ _ _ _ _ ?_ ?_ ?_ ?_ ?_ ?_
        all_goals first | (unfold t_to; rw [if_pos (.inr u)]) | (unfold t_ls; rw [if_pos (.inr u)]) | (unfold t_ea; rw [if_pos (.inr v)]) | (unfold t_fs; rw [if_pos (.inr v)]) | (unfold t_fr; rw [if_neg q]) | (unfold t_la; rw [if_neg q])
      · rw [if_neg v]
        have v' : ¬ (count = 0 ∨ c < ea) := by omega
        refine key _ _ _ _ _ _ ?_ ?_ ?_ ?_ ?_ ?_
        all_goals first | (unfold t_to; rw [if_pos (.inr u)]) | (unfold t_ls; rw [if_pos (.inr u)]) | (unfold t_ea; rw [if_neg v']) | (unfold t_fs; rw [if_neg v']) | (unfold t_fr; rw [if_neg q]) | (unfold t_la; rw [if_neg q])
    · rw [if_neg u]
      have u' : ¬ (count = 0 ∨ to_ ≤ a) := by omega
      by_cases v : c < ea
      · rw [if_pos v]
        refine key _ _ _ _ _ _ ?_ ?_ ?_ ?_ ?_ ?_
        all_goals first | (unfold t_to; rw [if_neg u']) | (unfold t_ls; rw [if_neg u']) | (unfold t_ea; rw [if_pos (.inr v)]) | (unfold t_fs; rw [if_pos (.inr v)]) | (unfold t_fr; rw [if_neg q]) | (unfold t_la; rw [if_neg q])
      · rw [if_neg v]
        have v' : ¬ (count = 0 ∨ c < ea) := by omega
        refine key _ _ _ _ _ _ ?_ ?_ ?_ ?_ ?_ ?_
        all_goals first | (unfold t_to; rw [if_neg u']) | (unfold t_ls; rw [if_neg u']) | (unfold t_ea; rw [if_neg v']) | (unfold t_fs; rw [if_neg v']) | (unfold t_fr; rw [if_neg q]) | (unfold t_la; rw [if_neg q])
def askv (r : Int) : Int := mx (md r 15000 8000000 1) 6000
theorem ask_span {r : Int} (h1 : 1 ≤ r) (h2 : r ≤ 17179869184) : 6000 ≤ askv r ∧ askv r ≤ 1000000000 := by
  have e : md r 15000 8000000 1 = r * 15000 / 8000000 := md_down (by decide) (isI64_mk (by omega) (by omega))
  unfold askv mx
  rw [e]
  split <;> omega
theorem pstart_eq {r : Int} (h1 : 1 ≤ r) (h2 : r ≤ 17179869184) : probe_Probe_Start.f 0 0 0 0 0 0 0 0 0 0 0 0 0 0 0 r = some (1, 1, 1, 0, 1, r, askv r, askv r, 0, 0, 0, 0, 0, 0, 0, 0) := by
  unfold probe_Probe_Start.f
  rw [if_neg (by omega), if_neg (by omega), if_neg (by decide), if_pos ⟨rfl, rfl⟩, bytes_eq (isI64_mk (by omega) (by omega))]
  rfl
end Go.Proofs.Ytlgfnclgkhfhpaa.P
end

section
namespace Go.Proofs.Ytlgfnclgkhfhpaa.Pure
open Go.RowKit Go.Proofs.Ytlgfnclgkhfhpaa.P Go.Proofs.YtlgfnclgkhfhpaaW.PrintWords Go.Proofs.YtlgfnclgkhfhpaaW.PrintLast Go.Proofs.YtlgfnclgkhfhpaaW.PrintMore
set_option linter.unusedVariables false
set_option linter.unusedSimpArgs false
theorem mod_span {a n : Int} (h1 : 1 ≤ n) (h2 : n ≤ 4611686018427387904) (ha : isI64 a) : (∃ t, flywheelkeep_Mod.f a n = some t ∧ 0 ≤ t ∧ t < n) ∧ ∃ t, flywheelkeep_Mod64.f a n = some t ∧ 0 ≤ t ∧ t < n := by
  unfold flywheelkeep_Mod.f flywheelkeep_Mod64.f
  have q1 : -n < Int.tmod a n ∧ Int.tmod a n < n := ⟨Int.lt_tmod_of_pos a (by omega), Int.tmod_lt_of_pos a (by omega)⟩
  have n0 : ¬ n = 0 := by omega
  have n1 : ¬ n < 1 := by omega
  simp only [n0, n1, if_false]
  rw [wrap64_id (isI64_mk (by omega) (by omega))]
  have q2 := Int.tmod_nonneg n (show 0 ≤ Int.tmod a n + n by omega)
  have q3 := Int.tmod_lt_of_pos (Int.tmod a n + n) (show 0 < n by omega)
  exact ⟨⟨_, rfl, q2, q3⟩, _, rfl, q2, q3⟩
theorem rd42_mem {l : List S42} {i : Nat} (h : i < l.length) : rd_T42 l (i : Int) ∈ l := by
  unfold rd_T42
  simp [h]
end Go.Proofs.Ytlgfnclgkhfhpaa.Pure
end

section
namespace Go.Proofs.Ytlgfnclgkhfhpaa.Pure
open Go.RowKit Go.Proofs.Ytlgfnclgkhfhpaa.P Go.Proofs.YtlgfnclgkhfhpaaW.PrintWords Go.Proofs.YtlgfnclgkhfhpaaW.PrintLast Go.Proofs.YtlgfnclgkhfhpaaW.PrintMore
set_option linter.unusedVariables false
set_option linter.unusedSimpArgs false
def IsMn (v : Int) (l : List Int) : Prop := v ∈ l ∧ ∀ x ∈ l, v ≤ x
def IsMx (v : Int) (l : List Int) : Prop := v ∈ l ∧ ∀ x ∈ l, x ≤ v
theorem IsMn.unique {v w : Int} {l : List Int} (h : IsMn v l) (h' : IsMn w l) : v = w := Int.le_antisymm (h.2 _ h'.1) (h'.2 _ h.1)
theorem IsMx.unique {v w : Int} {l : List Int} (h : IsMx v l) (h' : IsMx w l) : v = w := Int.le_antisymm (h'.2 _ h.1) (h.2 _ h'.1)
theorem IsMn.snoc {v a : Int} {l : List Int} (h : l ≠ [] → IsMn v l) : IsMn (if l = [] then a else mn v a) (l ++ [a]) := by
  by_cases c : l = []
  · subst c; simp [IsMn]
  · rw [if_neg c]
    obtain ⟨h1, h2⟩ := h c
    unfold mn
    split
    · refine ⟨by simp, fun x hx => ?_⟩
      rcases List.mem_append.1 hx with hx | hx
      · have := h2 x hx; omega
      · have := List.mem_singleton.1 hx; omega
    · refine ⟨by simp [h1], fun x hx => ?_⟩
      rcases List.mem_append.1 hx with hx | hx
      · exact h2 x hx
      · have := List.mem_singleton.1 hx; omega
theorem IsMx.snoc {v a : Int} {l : List Int} (h : l ≠ [] → IsMx v l) : IsMx (if l = [] then a else mx v a) (l ++ [a]) := by
  by_cases c : l = []
  · subst c; simp [IsMx]
  · rw [if_neg c]
    obtain ⟨h1, h2⟩ := h c
    unfold mx
    split
    · refine ⟨by simp, fun x hx => ?_⟩
      rcases List.mem_append.1 hx with hx | hx
      · have := h2 x hx; omega
      · have := List.mem_singleton.1 hx; omega
    · refine ⟨by simp [h1], fun x hx => ?_⟩
      rcases List.mem_append.1 hx with hx | hx
      · exact h2 x hx
      · have := List.mem_singleton.1 hx; omega
theorem rdp_mem {l : List Int} {i : Nat} (h : i < l.length) : rd l (i : Int) ∈ l := by
  unfold rd
  simp [h]
theorem mem_rdp {l : List Int} {x : Int} (h : x ∈ l) : ∃ i : Nat, i < l.length ∧ rd l (i : Int) = x := by
  obtain ⟨i, hi, e⟩ := List.mem_iff_getElem.1 h
  exact ⟨i, hi, by unfold rd; simp [hi, e]⟩
def Ends (ats cs : List Int) (fr to_ ea la : Int) : Prop := ats ≠ [] → (IsMn fr ats ∧ IsMx to_ ats ∧ IsMn ea cs ∧ IsMx la cs)
theorem Ends.next {ats cs : List Int} {fr to_ ea la a c count : Int} (h : Ends ats cs fr to_ ea la) (hl : ats.length = cs.length) (hc : count = (ats.length : Int)) :
    IsMn (t_fr count fr a) (ats ++ [a]) ∧ IsMx (t_to count to_ a) (ats ++ [a]) ∧ IsMn (t_ea count ea c) (cs ++ [c]) ∧ IsMx (t_la count la c) (cs ++ [c]) := by
  have z : count = 0 ↔ ats = [] := by rw [hc, ← List.length_eq_zero_iff]; omega
  have z2 : cs = [] ↔ ats = [] := by rw [← List.length_eq_zero_iff, ← List.length_eq_zero_iff]; omega
  have s1 := IsMn.snoc (a := a) (fun q => (h q).1)
  have s2 := IsMx.snoc (a := a) (fun q => (h q).2.1)
  have s3 := IsMn.snoc (l := cs) (a := c) (fun q => (h (fun e => q (z2.2 e))).2.2.1)
  have s4 := IsMx.snoc (l := cs) (a := c) (fun q => (h (fun e => q (z2.2 e))).2.2.2)
  by_cases e : ats = []
  · have e0 := z.2 e
    have e2 := z2.2 e
    rw [if_pos e] at s1 s2
    rw [if_pos e2] at s3 s4
    refine ⟨?_, ?_, ?_, ?_⟩
    · unfold t_fr mn; rw [if_pos e0]; simpa using s1
    · unfold t_to; rw [if_pos (.inl e0)]; exact s2
    · unfold t_ea; rw [if_pos (.inl e0)]; exact s3
    · unfold t_la mx; rw [if_pos e0]; simpa using s4
  · have e0 : count ≠ 0 := fun q => e (z.1 q)
    have e2 : cs ≠ [] := fun q => e (z2.1 q)
    rw [if_neg e] at s1 s2
    rw [if_neg e2] at s3 s4
    refine ⟨?_, ?_, ?_, ?_⟩
    · unfold t_fr; rw [if_neg e0]; exact s1
    · have : t_to count to_ a = mx to_ a := by unfold t_to mx; split <;> split <;> omega
      rw [this]; exact s2
    · have : t_ea count ea c = mn ea c := by unfold t_ea mn; split <;> split <;> omega
      rw [this]; exact s3
    · unfold t_la; rw [if_neg e0]; exact s4
theorem resv_least {asked count bytes fr to_ ls ea la fs : Int} (h : CI asked count bytes fr to_ ls ea la fs) (hp : resv asked count bytes fr to_ ls ea la fs > 0) :
    fr < to_ ∧ ea < la ∧ resv asked count bytes fr to_ ls ea la fs ≤ rv bytes (to_ - fr) ∧ resv asked count bytes fr to_ ls ea la fs ≤ rv bytes (la - ea) := by
  unfold CI at h
  unfold resv at hp ⊢
  by_cases c : count < 4 ∨ bytes < Int.tdiv asked 2 ∨ to_ ≤ fr ∨ la ≤ ea
  · rw [if_pos c] at hp; omega
  · rw [if_neg c]
    have h1 := rv_mono (a := bytes - ls) (b := bytes) (t := to_ - fr) (by omega) (by omega)
    have h2 := rv_mono (a := bytes - fs) (b := bytes) (t := la - ea) (by omega) (by omega)
    refine ⟨by omega, by omega, ?_, ?_⟩
    · unfold mn; split <;> omega
    · unfold mn; split <;> omega
theorem ProbeLeast : flywheellaw26_ProbeLeast.Pure := by
  intro a l ha _ _ hl
  have wf : ∀ i : Nat, i < l.length → isI64 (rd_T42 l (i : Int)).f2 ∧ isI64 (rd_T42 l (i : Int)).f4 ∧ isI64 (rd_T42 l (i : Int)).f5 := fun i hi => by
    have h := hl _ (rd42_mem hi)
    exact ⟨isI64_of_wf h.2.2.1, isI64_of_wf h.2.2.2.2.1, isI64_of_wf h.2.2.2.2.2⟩
  refine ⟨4000, ?_⟩
  obtain ⟨t, et, t0, t1⟩ := (mod_span (n := 1073741824) (by decide) (by decide) (isI64_of_wf ha)).2
  have sp := ask_span (r := 1 + t) (by omega) (by omega)
  -- the four ends, gone through once more
  have inner : ∀ (G : Nat → Int → Int → Int → Int → Prop) (X Y : List Int) (by_ best rr : Int) (i : Nat) (N O B H R A L C S F T' K E M V : Int), X.length = Y.length → X.length ≤ 60 →
      ∀ (m j k : Nat) (lo hi fr to_ : Int), j + m = X.length → m + 1 ≤ k → lo ∈ X → hi ∈ X → fr ∈ Y → to_ ∈ Y →
      (∀ q : Nat, q < j → lo ≤ rd X q ∧ rd X q ≤ hi ∧ fr ≤ rd Y q ∧ rd Y q ≤ to_) →
      ∃ lo' hi' fr' to' k', IsMn lo' X ∧ IsMx hi' X ∧ IsMn fr' Y ∧ IsMx to' Y ∧ k' + 1 + m = k ∧
        flywheellaw26_ProbeLeast.l1 k l by_ best X Y i rr lo hi fr to_ j N O B H R A L C S F T' K E M V = flywheellaw26_ProbeLeast.l1 (k' + 1) l by_ best X Y i rr lo' hi' fr' to' (X.length : Int) N O B H R A L C S F T' K E M V := by
    intro G X Y by_ best rr i N O B H R A L C S F T' K E M V hXY hX m
    induction m with
    | zero =>
      intro j k lo hi fr to_ hj hk h1 h2 h3 h4 h5
      obtain ⟨k, rfl⟩ : ∃ q, k = q + 1 := ⟨k - 1, by omega⟩
      obtain rfl : j = X.length := by omega
      refine ⟨lo, hi, fr, to_, k, ⟨h1, fun x hx => ?_⟩, ⟨h2, fun x hx => ?_⟩, ⟨h3, fun x hx => ?_⟩, ⟨h4, fun x hx => ?_⟩, by omega, rfl⟩
      · obtain ⟨q, hq, rfl⟩ := mem_rdp hx; exact (h5 q hq).1
      · obtain ⟨q, hq, rfl⟩ := mem_rdp hx; exact (h5 q hq).2.1
      · obtain ⟨q, hq, rfl⟩ := mem_rdp hx; exact (h5 q (by omega)).2.2.1
      · obtain ⟨q, hq, rfl⟩ := mem_rdp hx; exact (h5 q (by omega)).2.2.2
    | succ m ih =>
      intro j k lo hi fr to_ hj hk h1 h2 h3 h4 h5
      obtain ⟨k, rfl⟩ : ∃ q, k = q + 1 := ⟨k - 1, by omega⟩
      have m1 : mn lo (rd X j) ∈ X := by unfold mn; split; exact rdp_mem (by omega); exact h1
      have m2 : mx hi (rd X j) ∈ X := by unfold mx; split; exact rdp_mem (by omega); exact h2
      have m3 : mn fr (rd Y j) ∈ Y := by unfold mn; split; exact rdp_mem (by omega); exact h3
      have m4 : mx to_ (rd Y j) ∈ Y := by unfold mx; split; exact rdp_mem (by omega); exact h4
      obtain ⟨lo', hi', fr', to', k', q1, q2, q3, q4, q5, q6⟩ := ih (j + 1) k (mn lo (rd X j)) (mx hi (rd X j)) (mn fr (rd Y j)) (mx to_ (rd Y j)) (by omega) (by omega) m1 m2 m3 m4 (fun q hq => by
        rcases Nat.lt_or_ge q j with hlt | hge
        · have := h5 q hlt
          unfold mn mx
          repeat' split
          all_goals omega
        · obtain rfl : q = j := by omega
          unfold mn mx
          repeat' split
          all_goals omega)
      refine ⟨lo', hi', fr', to', k', q1, q2, q3, q4, by omega, ?_⟩
      rw [← q6]
      conv => lhs; unfold flywheellaw26_ProbeLeast.l1
      rw [if_pos (show (j : Int) < (X.length : Int) by omega), if_pos (show (0 : Int) ≤ (j : Int) by omega), if_pos (show (j : Int) < (Y.length : Int) by omega), wnn j (by omega)]
  have fin : ∀ (i k : Nat) (by_ best r n count bytes fr to_ ls ea la fs : Int) (X Y : List Int), 2 ≤ k →
      flywheellaw26_ProbeLeast.j1 k l by_ best X Y i false 1 1 best 1 r n n count bytes fr to_ ls ea la fs = some true := by
    intro i k by_ best r n count bytes fr to_ ls ea la fs X Y hk
    obtain ⟨k, rfl⟩ : ∃ j, k = j + 1 := ⟨k - 1, by omega⟩
    simp only [flywheellaw26_ProbeLeast.j1, Bool.false_eq_true, if_false, probe_Probe_Best.f, Option.bind_some, if_true]
    exact wk26
  have loop : ∀ (m i k : Nat) (best r n bytes fr to_ ls ea la fs : Int) (X Y : List Int), i + m = 60 → 64 * m + 70 ≤ k → CI n i bytes fr to_ ls ea la fs → bytes ≤ 1500 * (i : Int) → X.length = i → Y.length = i → Ends X Y fr to_ ea la →
      flywheellaw26_ProbeLeast.l0 k l bytes best X Y i 1 1 best 1 r n n i bytes fr to_ ls ea la fs = some true := by
    intro m
    induction m with
    | zero =>
      intro i k best r n bytes fr to_ ls ea la fs X Y hi hk h hby hX hY hE
      obtain ⟨k, rfl⟩ : ∃ j, k = j + 1 := ⟨k - 1, by omega⟩
      simp only [flywheellaw26_ProbeLeast.l0]
      rw [show decide ((i : Int) < 60) = false from decide_eq_false (by omega)]
      split <;> exact fin i k _ _ _ _ _ _ _ _ _ _ _ _ _ _ (by omega)
    | succ m ih =>
      intro i k best r n bytes fr to_ ls ea la fs X Y hi hk h hby hX hY hE
      obtain ⟨k, rfl⟩ : ∃ j, k = j + 2 := ⟨k - 2, by omega⟩
      simp only [flywheellaw26_ProbeLeast.l0]
      by_cases c : (i : Int) < (l.length : Int)
      · rw [if_pos c, show decide ((i : Int) < 60) = true from decide_eq_true (by omega)]
        obtain ⟨w2, w4, w5⟩ := wf i (by omega)
        simp only [flywheellaw26_ProbeLeast.j1, if_true]
        rw [if_pos (show (0 : Int) ≤ (i : Int) by omega), if_pos c]
        obtain ⟨s, es, s0, s1⟩ := (mod_span (n := 1500) (by decide) (by decide) w2).1
        obtain ⟨u, eu, u0, u1⟩ := (mod_span (n := 1073741824) (by decide) (by decide) w4).2
        obtain ⟨v, ev, v0, v1⟩ := (mod_span (n := 1073741824) (by decide) (by decide) w5).2
        rw [es, eu, ev]
        simp only [Option.bind_some]
        rw [if_pos (by omega), if_pos (by omega), wrap64_id (a := 1 + s) (isI64_mk (by omega) (by omega)), got_eq k (by omega) h (by omega) (by omega) (by omega) (by omega) u0 (by omega) (by omega) (by omega)]
        have hn' := h.next (s := 1 + s) (a := u) (c := v) (by omega) (by omega) (by omega) (by omega) u0 (by omega) (by omega) (by omega)
        have hE' := hE.next (a := u) (c := v) (count := (i : Int)) (by omega) (by omega)
        have hr := resv_nonneg hn'
        have hl' := resv_least hn'
        have hb0 : 0 ≤ bytes := by unfold CI at h; omega
        simp only [Option.bind_some]
        rw [wrap64_id (a := bytes + (1 + s)) (isI64_mk (by omega) (by omega))]
        obtain ⟨lo', hi', fr', to', k', q1, q2, q3, q4, q5, q6⟩ := inner (fun _ _ _ _ _ => True) (X ++ [u]) (Y ++ [v]) (bytes + (1 + s)) best
          (resv n ((i : Int) + 1) (bytes + (1 + s)) (t_fr i fr u) (t_to i to_ u) (t_ls i to_ ls u (1 + s)) (t_ea i ea v) (t_la i la v) (t_fs i ea fs v (1 + s))) i 1 1
          (mx best (resv n ((i : Int) + 1) (bytes + (1 + s)) (t_fr i fr u) (t_to i to_ u) (t_ls i to_ ls u (1 + s)) (t_ea i ea v) (t_la i la v) (t_fs i ea fs v (1 + s)))) 1 r n n ((i : Int) + 1) (bytes + (1 + s)) (t_fr i fr u) (t_to i to_ u) (t_ls i to_ ls u (1 + s)) (t_ea i ea v) (t_la i la v) (t_fs i ea fs v (1 + s))
          (by simp [hX, hY]) (by simp [hX]; omega) (X ++ [u]).length 0 k u u v v (by omega) (by simp [hX]; omega) (by simp) (by simp) (by simp) (by simp) (fun q hq => by omega)
        rw [show ((0 : Nat) : Int) = 0 from rfl] at q6
        rw [q6]
        obtain rfl := q1.unique hE'.1
        obtain rfl := q2.unique hE'.2.1
        obtain rfl := q3.unique hE'.2.2.1
        obtain rfl := q4.unique hE'.2.2.2
        have lx : (X ++ [u]).length = i + 1 := by simp [hX]
        have ly : (Y ++ [v]).length = i + 1 := by simp [hY]
        rw [lx] at q5
        have hn2 := hn'
        unfold CI at hn2
        generalize hR : resv n ((i : Int) + 1) (bytes + (1 + s)) (t_fr i fr u) (t_to i to_ u) (t_ls i to_ ls u (1 + s)) (t_ea i ea v) (t_la i la v) (t_fs i ea fs v (1 + s)) = R at *
        have nx := ih (i + 1) k' (mx best R) r n (bytes + (1 + s)) (t_fr i fr u) (t_to i to_ u) (t_ls i to_ ls u (1 + s)) (t_ea i ea v) (t_la i la v) (t_fs i ea fs v (1 + s)) (X ++ [u]) (Y ++ [v]) (by omega) (by omega) (by rw [show ((i + 1 : Nat) : Int) = (i : Int) + 1 by omega]; exact hn') (by omega) lx ly (fun _ => hE')
        rw [show ((i + 1 : Nat) : Int) = (i : Int) + 1 by omega] at nx
        simp only [flywheellaw26_ProbeLeast.l1]
        rw [if_neg (by omega), wnn i (by omega), show ((i + 1 : Nat) : Int) = (i : Int) + 1 by omega]
        by_cases hp : R > 0
        · obtain ⟨z1, z2, z3, z4⟩ := hl' hp
          rw [if_pos hp, if_neg (by omega), if_neg (by omega), wrap64_id (a := t_to i to_ u - t_fr i fr u) (isI64_mk (by omega) (by omega)), wrap64_id (a := t_la i la v - t_ea i ea v) (isI64_mk (by omega) (by omega)),
            rate_eq (isI64_mk (by omega) (by omega)) (isI64_mk (by omega) (by omega)), rate_eq (isI64_mk (by omega) (by omega)) (isI64_mk (by omega) (by omega))]
          simp only [Option.bind_some]
          rw [if_neg (by omega), if_neg (by omega)]
          exact nx
        · rw [if_neg hp]; exact nx
      · rw [if_neg c]
        exact fin i (k + 1) _ _ _ _ _ _ _ _ _ _ _ _ _ _ (by omega)
  unfold flywheellaw26_ProbeLeast.f probe_New.f
  simp only [Option.bind_some]
  rw [et]
  simp only [Option.bind_some]
  rw [wrap64_id (a := 1 + t) (isI64_mk (by omega) (by omega)), pstart_eq (by omega) (by omega)]
  simp only [Option.bind_some, if_true]
  exact loop 60 0 4000 0 (1 + t) (askv (1 + t)) 0 0 0 0 0 0 0 [] [] (by omega) (by omega) (by unfold CI; omega) (by decide) rfl rfl (fun h => absurd rfl h)
end Go.Proofs.Ytlgfnclgkhfhpaa.Pure
end

section

end

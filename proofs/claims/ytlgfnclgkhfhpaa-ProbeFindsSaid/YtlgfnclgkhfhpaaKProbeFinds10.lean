-- PUT TOGETHER by a program of this session: of the claim's texts, what is used
import Derived.Test.YtlgfnclgkhfhpaaKProbeFinds7
import Derived.Test.YtlgfnclgkhfhpaaKProbeFinds8
import Derived.Test.YtlgfnclgkhfhpaaKProbeFinds9
import Derived.WalkArith
import Derived.KernelRfl
section
namespace Go.Proofs.Ytlgfnclgkhfhpaa.P
open Go.RowKit
set_option linter.unusedVariables false
set_option linter.unusedSimpArgs false
def md (a b c how : Int) : Int := (mdq a b c how).1
theorem u16_of_wf {a : Int} (h : (Lit.int .u16 a).wf = true) : 0 ≤ a ∧ a ≤ 65535 := by
  simp only [Lit.wf, IntKind.min, IntKind.max, IntKind.signed, IntKind.bits, Bool.and_eq_true, decide_eq_true_eq] at h
  simp at h; omega
theorem wrap64_id {a : Int} (h : isI64 a) : wrap64 a = a := by unfold isI64 at h; unfold wrap64; omega
theorem isI64_mk {a : Int} (h : -9223372036854775808 ≤ a) (h' : a ≤ 9223372036854775807) : isI64 a := ⟨h, h'⟩
theorem hold64_id (q : Int) (h : isI64 q) : hold64 q = (q, true) := by
  unfold isI64 at h; unfold hold64
  rw [if_neg (by omega), if_neg (by omega)]
theorem hold64_mono {p q : Int} (h : p ≤ q) : (hold64 p).1 ≤ (hold64 q).1 := by
  unfold hold64
  repeat' split
  all_goals (simp only []; omega)
theorem do_eq {a b c : Int} (how : Int) (ha : isI64 a) (hb : isI64 b) (hc : isI64 c) : muldiv_Do.f a b c how = some (md a b c how) := by
  unfold muldiv_Do.f muldiv_quotient_s.f
  rw [if_pos ⟨ha, hb, hc⟩]; rfl
theorem md_pos {a b c how : Int} (hc : 0 < c) (h1 : 1 ≤ how) (h3 : how ≤ 3) : md a b c how = (hold64 (rnd (a * b) c how)).1 := by
  unfold md mdq
  rw [if_neg (by omega), if_neg (by omega)]
theorem rnd_down (n d : Int) : rnd n d 1 = n / d := by unfold rnd; rw [if_pos rfl]
theorem md_down {a b c : Int} (hc : 0 < c) (h : isI64 (a * b / c)) : md a b c 1 = a * b / c := by
  rw [md_pos hc (by decide) (by decide), rnd_down, hold64_id _ h]
end Go.Proofs.Ytlgfnclgkhfhpaa.P
end

section
namespace Go.Proofs.Ytlgfnclgkhfhpaa.P
open Go.RowKit Go.Proofs.YtlgfnclgkhfhpaaW.PrintWords Go.Proofs.YtlgfnclgkhfhpaaW.PrintLast Go.Proofs.YtlgfnclgkhfhpaaW.PrintMore
set_option linter.unusedVariables false
set_option linter.unusedSimpArgs false
set_option maxRecDepth 100000 in
theorem wakes26 : flywheellaw26_wakes.f = some true := by kernel_rfl
theorem wk26 : ((flywheellaw26_wakes.f).bind fun t => some t) = some true := by rw [wakes26]; rfl
theorem wnn (i : Nat) (h : i ≤ 4611686018427387904) : wrap64 ((i : Int) + 1) = ((i + 1 : Nat) : Int) := by rw [wrap64_id (isI64_mk (by omega) (by omega))]; omega
def rv (a t : Int) : Int := md a 8000000 t 1
theorem rate_eq {a t : Int} (ha : isI64 a) (ht : isI64 t) : units_Rate.f a t = some (rv a t) := by
  unfold units_Rate.f
  rw [do_eq 1 ha (isI64_mk (by decide) (by decide)) ht]
  rfl
theorem rv_pos {a t : Int} (ht : 0 < t) : rv a t = (hold64 (a * 8000000 / t)).1 := by
  unfold rv
  rw [md_pos ht (by decide) (by decide), rnd_down]
theorem bytes_eq {r : Int} (hr : isI64 r) : units_Bytes.f r 15000 = some (md r 15000 8000000 1) := by
  unfold units_Bytes.f units_rate_bytes.f
  rw [do_eq 1 hr (isI64_mk (by decide) (by decide)) (isI64_mk (by decide) (by decide))]
  rfl
theorem good_eq {s a : Int} (h1 : 1 ≤ s) (h2 : s ≤ 1500) (h3 : 0 ≤ a) (h4 : a ≤ 1125899906842624) : probe_good.f s a = some true := by
  unfold probe_good.f
  rw [if_pos (by omega), if_pos h2, if_pos (by omega), decide_eq_true h4]
def resv (asked count bytes fr to_ ls ea la fs : Int) : Int :=
  if count < 4 ∨ bytes < Int.tdiv asked 2 ∨ to_ ≤ fr ∨ la ≤ ea then 0 else mn (rv (bytes - ls) (to_ - fr)) (rv (bytes - fs) (la - ea))
def CI (asked count bytes fr to_ ls ea la fs : Int) : Prop :=
  0 ≤ asked ∧ asked ≤ 1000000000 ∧ 0 ≤ count ∧ count ≤ 1000000 ∧ 0 ≤ bytes ∧ bytes ≤ 1500000000 ∧ 0 ≤ fr ∧ fr ≤ 1125899906842624 ∧ 0 ≤ to_ ∧ to_ ≤ 1125899906842624 ∧ 0 ≤ ls ∧ ls ≤ bytes ∧ -1125899906842624 ≤ ea ∧ ea ≤ 1125899906842624 ∧ -1125899906842624 ≤ la ∧ la ≤ 1125899906842624 ∧ 0 ≤ fs ∧ fs ≤ bytes
theorem result_eq {rate left asked count bytes fr to_ ls ea la fs : Int} (k : Nat) (hk : 1 ≤ k) (h : CI asked count bytes fr to_ ls ea la fs) :
    probe_cluster_result.f k rate asked left count bytes fr to_ ls ea la fs = some (resv asked count bytes fr to_ ls ea la fs, rate, asked, left, count, bytes, fr, to_, ls, ea, la, fs) := by
  obtain ⟨k, rfl⟩ : ∃ j, k = j + 1 := ⟨k - 1, by omega⟩
  unfold CI at h
  have ht : 0 ≤ Int.tdiv asked 2 ∧ Int.tdiv asked 2 ≤ asked := by
    rw [Int.tdiv_eq_ediv_of_nonneg (by omega)]; omega
  unfold probe_cluster_result.f resv
  rw [wrap64_id (a := Int.tdiv asked 2) (isI64_mk (by omega) (by omega))]
  simp only [probe_cluster_result.j0, if_true]
  by_cases c1 : count < 4
  · rw [if_pos c1, if_pos (.inl c1)]
  rw [if_neg c1]
  by_cases c2 : bytes < Int.tdiv asked 2
  · rw [if_pos c2, if_pos (.inr (.inl c2))]
  rw [if_neg c2]
  by_cases c3 : to_ ≤ fr
  · rw [if_pos c3, if_pos (.inr (.inr (.inl c3)))]
  rw [if_neg c3]
  by_cases c4 : la ≤ ea
  · rw [decide_eq_true c4, if_pos rfl, if_pos (.inr (.inr (.inr c4)))]
  rw [decide_eq_false c4, if_neg (by simp), if_neg (by omega), wrap64_id (a := bytes - ls) (isI64_mk (by omega) (by omega)), wrap64_id (a := to_ - fr) (isI64_mk (by omega) (by omega)), wrap64_id (a := bytes - fs) (isI64_mk (by omega) (by omega)), wrap64_id (a := la - ea) (isI64_mk (by omega) (by omega)),
    rate_eq (isI64_mk (by omega) (by omega)) (isI64_mk (by omega) (by omega)), rate_eq (isI64_mk (by omega) (by omega)) (isI64_mk (by omega) (by omega))]
  rfl
def t_to (count to_ a : Int) : Int := if count = 0 ∨ to_ ≤ a then a else to_
def t_ls (count to_ ls a s : Int) : Int := if count = 0 ∨ to_ ≤ a then s else ls
def t_ea (count ea c : Int) : Int := if count = 0 ∨ c < ea then c else ea
def t_fs (count ea fs c s : Int) : Int := if count = 0 ∨ c < ea then s else fs
def t_fr (count fr a : Int) : Int := mn (if count = 0 then a else fr) a
def t_la (count la c : Int) : Int := mx (if count = 0 then c else la) c
theorem CI.next {asked count bytes fr to_ ls ea la fs s a c : Int} (h : CI asked count bytes fr to_ ls ea la fs) (hc : count < 1000000) (hb : bytes ≤ 1499998500) (s1 : 1 ≤ s) (s2 : s ≤ 1500) (a1 : 0 ≤ a) (a2 : a ≤ 1125899906842624) (c1 : -1125899906842624 ≤ c) (c2 : c ≤ 1125899906842624) :
    CI asked (count + 1) (bytes + s) (t_fr count fr a) (t_to count to_ a) (t_ls count to_ ls a s) (t_ea count ea c) (t_la count la c) (t_fs count ea fs c s) := by
  unfold CI at h ⊢
  obtain ⟨h1, h2, h3, h4, h5, h6, h7, h8, h9, h10, h11, h12, h13, h14, h15, h16, h17, h18⟩ := h
  unfold t_fr t_to t_ls t_ea t_la t_fs mn mx
  refine ⟨h1, h2, by omega, by omega, by omega, by omega, ?_, ?_, ?_, ?_, ?_, ?_, ?_, ?_, ?_, ?_, ?_, ?_⟩
  all_goals (repeat' split)
  all_goals omega
theorem got_eq {open_ best rate left asked count bytes fr to_ ls ea la fs s a c : Int} (k : Nat) (hk : 1 ≤ k) (h : CI asked count bytes fr to_ ls ea la fs) (hc : count < 1000000) (hb : bytes ≤ 1499998500) (s1 : 1 ≤ s) (s2 : s ≤ 1500) (a1 : 0 ≤ a) (a2 : a ≤ 1125899906842624) (c1 : -1125899906842624 ≤ c) (c2 : c ≤ 1125899906842624) (next : Int) :
    probe_Probe_Got.f k next open_ best 1 rate asked left count bytes fr to_ ls ea la fs 1 s a c =
      some (resv asked (count + 1) (bytes + s) (t_fr count fr a) (t_to count to_ a) (t_ls count to_ ls a s) (t_ea count ea c) (t_la count la c) (t_fs count ea fs c s), next, open_,
        mx best (resv asked (count + 1) (bytes + s) (t_fr count fr a) (t_to count to_ a) (t_ls count to_ ls a s) (t_ea count ea c) (t_la count la c) (t_fs count ea fs c s)), 1,
        rate, asked, left, count + 1, bytes + s, t_fr count fr a, t_to count to_ a, t_ls count to_ ls a s, t_ea count ea c, t_la count la c, t_fs count ea fs c s) := by
  have hn := h.next hc hb s1 s2 a1 a2 c1 c2
  have w1 : wrap64 (count + 1) = count + 1 := wrap64_id (isI64_mk (by unfold CI at h; omega) (by unfold CI at h; omega))
  have w2 : wrap64 (bytes + s) = bytes + s := wrap64_id (isI64_mk (by unfold CI at h; omega) (by unfold CI at h; omega))
  unfold probe_Probe_Got.f
  rw [good_eq s1 s2 a1 a2]
  simp only [Option.bind_some, if_true]
  rw [if_neg (by omega), if_neg (by omega)]
  have key : ∀ (T L E F R A : Int), T = t_to count to_ a → L = t_ls count to_ ls a s → E = t_ea count ea c → F = t_fs count ea fs c s → mn R a = t_fr count fr a → mx A c = t_la count la c →
      gotu k next open_ best 1 rate asked left count bytes fr to_ ls ea la fs s a c T L E F R A = some (resv asked (count + 1) (bytes + s) (t_fr count fr a) (t_to count to_ a) (t_ls count to_ ls a s) (t_ea count ea c) (t_la count la c) (t_fs count ea fs c s), next, open_,
        mx best (resv asked (count + 1) (bytes + s) (t_fr count fr a) (t_to count to_ a) (t_ls count to_ ls a s) (t_ea count ea c) (t_la count la c) (t_fs count ea fs c s)), 1,
        rate, asked, left, count + 1, bytes + s, t_fr count fr a, t_to count to_ a, t_ls count to_ ls a s, t_ea count ea c, t_la count la c, t_fs count ea fs c s) := by
    intro T L E F R A e1 e2 e3 e4 e5 e6
    subst e1 e2 e3 e4
    unfold gotu
    simp only [Option.bind_some]
    rw [e5, e6, w1, w2, result_eq k hk hn]
    rfl
  by_cases q : count = 0
  · rw [if_pos q]
    refine key _ _ _ _ _ _ ?_ ?_ ?_ ?_ ?_ ?_
    all_goals first | (unfold t_to; rw [if_pos (.inl q)]) | (unfold t_ls; rw [if_pos (.inl q)]) | (unfold t_ea; rw [if_pos (.inl q)]) | (unfold t_fs; rw [if_pos (.inl q)]) | (unfold t_fr; rw [if_pos q]) | (unfold t_la; rw [if_pos q])
  · rw [if_neg q]
    by_cases u : to_ ≤ a
    · rw [if_pos u]
      by_cases v : c < ea
      · rw [if_pos v]
        refine key _ _ _ _ _ _ ?_ ?_ ?_ ?_ ?_ ?_
        all_goals first | (unfold t_to; rw [if_pos (.inr u)]) | (unfold t_ls; rw [if_pos (.inr u)]) | (unfold t_ea; rw [if_pos (.inr v)]) | (unfold t_fs; rw [if_pos (.inr v)]) | (unfold t_fr; rw [if_neg q]) | (unfold t_la; rw [if_neg q])
      · rw [if_neg v]
        have v' : ¬ (count = 0 ∨ c < ea) := by omega
        refine key _ _ _ _ _ _ ?_ ?_ ?_ ?_ ?_ ?_
        all_goals first | (unfold t_to; rw [if_pos (.inr u)]) | (unfold t_ls; rw [if_pos (.inr u)]) | (unfold t_ea; rw [if_neg v']) | (unfold t_fs; rw [if_neg v']) | (unfold t_fr; rw [if_neg q]) | (unfold t_la; rw [if_neg q])
    · rw [if_neg u]
      have u' : ¬ (count = 0 ∨ to_ ≤ a) := by omega
      by_cases v : c < ea
      · rw [if_pos v]
        refine key _ _ _ _ _ _ ?_ ?_ ?_ ?_ ?_ ?_
        all_goals first | (unfold t_to; rw [if_neg u']) | (unfold t_ls; rw [if_neg u']) | (unfold t_ea; rw [if_pos (.inr v)]) | (unfold t_fs; rw [if_pos (.inr v)]) | (unfold t_fr; rw [if_neg q]) | (unfold t_la; rw [if_neg q])
      · rw [if_neg v]
        have v' : ¬ (count = 0 ∨ c < ea) := by omega
        refine key _ _ _ _ _ _ ?_ ?_ ?_ ?_ ?_ ?_
        all_goals first | (unfold t_to; rw [if_neg u']) | (unfold t_ls; rw [if_neg u']) | (unfold t_ea; rw [if_neg v']) | (unfold t_fs; rw [if_neg v']) | (unfold t_fr; rw [if_neg q]) | (unfold t_la; rw [if_neg q])
def askv (r : Int) : Int := mx (md r 15000 8000000 1) 6000
theorem pstart_eq {r : Int} (h1 : 1 ≤ r) (h2 : r ≤ 17179869184) : probe_Probe_Start.f 0 0 0 0 0 0 0 0 0 0 0 0 0 0 0 r = some (1, 1, 1, 0, 1, r, askv r, askv r, 0, 0, 0, 0, 0, 0, 0, 0) := by
  unfold probe_Probe_Start.f
  rw [if_neg (by omega), if_neg (by omega), if_neg (by decide), if_pos ⟨rfl, rfl⟩, bytes_eq (isI64_mk (by omega) (by omega))]
  rfl
end Go.Proofs.Ytlgfnclgkhfhpaa.P
end

section
namespace Go.Proofs.Ytlgfnclgkhfhpaa.Pure
open Go.RowKit Go.Proofs.Ytlgfnclgkhfhpaa.P Go.Proofs.YtlgfnclgkhfhpaaW.PrintWords Go.Proofs.YtlgfnclgkhfhpaaW.PrintLast Go.Proofs.YtlgfnclgkhfhpaaW.PrintMore
set_option linter.unusedVariables false
set_option linter.unusedSimpArgs false
end Go.Proofs.Ytlgfnclgkhfhpaa.Pure
end

section
namespace Go.Proofs.Ytlgfnclgkhfhpaa.Pure
open Go.RowKit Go.Proofs.Ytlgfnclgkhfhpaa.P Go.Proofs.YtlgfnclgkhfhpaaW.PrintWords Go.Proofs.YtlgfnclgkhfhpaaW.PrintLast Go.Proofs.YtlgfnclgkhfhpaaW.PrintMore
set_option linter.unusedVariables false
set_option linter.unusedSimpArgs false
end Go.Proofs.Ytlgfnclgkhfhpaa.Pure
end

section
namespace Go.Proofs.Ytlgfnclgkhfhpaa.Pure
open Go.RowKit Go.Proofs.Ytlgfnclgkhfhpaa.P Go.Proofs.YtlgfnclgkhfhpaaW.PrintWords Go.Proofs.YtlgfnclgkhfhpaaW.PrintLast Go.Proofs.YtlgfnclgkhfhpaaW.PrintMore
set_option linter.unusedVariables false
set_option linter.unusedSimpArgs false
theorem rv_anti {a t u : Int} (ha : 0 ≤ a) (ht : 0 < t) (h : t ≤ u) : rv a u ≤ rv a t := by
  rw [rv_pos ht, rv_pos (show 0 < u by omega)]
  refine hold64_mono ((Int.le_ediv_iff_mul_le ht).2 ?_)
  have h0 : 0 ≤ a * 8000000 / u := Int.ediv_nonneg (by omega) (by omega)
  have h1 : a * 8000000 / u * t ≤ a * 8000000 / u * u := Int.mul_le_mul_of_nonneg_left h h0
  have h2 := Int.ediv_mul_le (a * 8000000) (show u ≠ 0 by omega)
  omega
theorem sent_eq {n s a left : Int} (h1 : 1 ≤ s) (h2 : s ≤ 1500) (h3 : 0 ≤ a) (h4 : a ≤ 1125899906842624) (l0 : 0 < left) (l1 : left ≤ 15000) : probe_Probe_Sent.f 1 1 0 1 8000000 15000 left 0 0 0 0 0 0 0 0 1 s a =
    some (true, 1, (if left - s ≤ 0 then 0 else 1), 0, 1, 8000000, 15000, left - s, 0, 0, 0, 0, 0, 0, 0, 0) := by
  unfold probe_Probe_Sent.f
  rw [if_neg (by decide), if_pos rfl, good_eq h1 h2 h3 h4]
  simp only [Option.bind_some, if_true]
  rw [if_pos (by simp), wrap64_id (isI64_mk (by omega) (by omega))]
theorem open_eq {b left : Int} (hb : b = 0 ∨ b = 1) : probe_Probe_Open.f 1 b 0 1 8000000 15000 left 0 0 0 0 0 0 0 0 = some (b, (if b = 0 then 0 else 8000000), (if b = 0 then 0 else left), 1, b, 0, 1, 8000000, 15000, left, 0, 0, 0, 0, 0, 0, 0, 0) := by
  unfold probe_Probe_Open.f
  rcases hb with rfl | rfl
  · rfl
  · rw [if_neg (by decide), if_pos ⟨rfl, rfl⟩]; rfl
theorem ask15 : askv 8000000 = 15000 := by
  unfold askv
  rw [md_down (by decide) (isI64_mk (by decide) (by decide))]
  decide
def Cl (s g d i bytes fr to_ ls ea la fs : Int) : Prop := bytes = i * s ∧ fr = 0 ∧ (i = 0 → to_ = 0 ∧ ls = 0 ∧ ea = 0 ∧ la = 0 ∧ fs = 0) ∧ (0 < i → to_ = (i - 1) * g ∧ ls = s ∧ ea = 7 ∧ la = 7 + (i - 1) * d ∧ fs = s)
theorem ProbeFinds : flywheellaw26_ProbeFinds.Pure := by
  intro a b c ha hb hc
  have ha := u16_of_wf ha
  have hb := u16_of_wf hb
  have hc := u16_of_wf hc
  refine ⟨400, ?_⟩
  unfold flywheellaw26_ProbeFinds.f probe_New.f
  simp only [Option.bind_some]
  rw [pstart_eq (by decide) (by decide), ask15]
  simp only [Option.bind_some, if_true]
  rw [open_eq (.inr rfl), if_neg (by decide), if_neg (by decide)]
  simp only [Option.bind_some]
  rw [wrap64_id (a := a) (isI64_mk (by omega) (by omega)), wrap64_id (a := b) (isI64_mk (by omega) (by omega)), wrap64_id (a := c) (isI64_mk (by omega) (by omega)), Int.tmod_eq_emod_of_nonneg ha.1, Int.tmod_eq_emod_of_nonneg hb.1, Int.tmod_eq_emod_of_nonneg hc.1,
    wrap64_id (a := 200 + a % 1301) (isI64_mk (by omega) (by omega)), wrap64_id (a := 1 + b % 5000) (isI64_mk (by omega) (by omega))]
  have s0 : 200 ≤ 200 + a % 1301 ∧ 200 + a % 1301 ≤ 1500 := by omega
  have g0 : 1 ≤ 1 + b % 5000 ∧ 1 + b % 5000 ≤ 5000 := by omega
  have m0 : 0 ≤ c % 5000 ∧ c % 5000 ≤ 4999 := by omega
  generalize 200 + a % 1301 = s at *
  generalize 1 + b % 5000 = g at *
  generalize c % 5000 = m at *
  -- what came
  have second : ∀ (n : Nat) (left : Int), 4 ≤ n → n ≤ 75 → (n : Int) * s ≥ 15000 → ((n : Int) - 1) * s < 15000 → ∀ (d i k : Nat) (x best bytes fr to_ ls ea la fs : Int), i + d = n → d + 5 ≤ k → Cl s g (g + m) i bytes fr to_ ls ea la fs →
      (i = n → x = rv (((n : Int) - 1) * s) (((n : Int) - 1) * (g + m)) ∧ x ≤ best) →
      flywheellaw26_ProbeFinds.l1 k s g m n x i 1 0 best 1 8000000 15000 left i bytes fr to_ ls ea la fs = some true := by
    intro n left n4 n75 hn hn1 d
    induction d with
    | zero =>
      intro i k x best bytes fr to_ ls ea la fs hi hk h hx
      obtain ⟨k, rfl⟩ : ∃ j, k = j + 1 := ⟨k - 1, by omega⟩
      obtain rfl : i = n := by omega
      obtain ⟨hx1, hx2⟩ := hx rfl
      have p1 : 0 ≤ ((i : Int) - 1) * s ∧ ((i : Int) - 1) * s ≤ 74 * 1500 := ⟨Int.mul_nonneg (by omega) (by omega), Int.mul_le_mul (by omega) (by omega) (by omega) (by omega)⟩
      have p2 : 0 ≤ ((i : Int) - 1) * (g + m) ∧ ((i : Int) - 1) * (g + m) ≤ 74 * 9999 := ⟨Int.mul_nonneg (by omega) (by omega), Int.mul_le_mul (by omega) (by omega) (by omega) (by omega)⟩
      simp only [flywheellaw26_ProbeFinds.l1]
      rw [if_neg (by omega), if_neg (by omega), wrap64_id (a := (i : Int) - 1) (isI64_mk (by omega) (by omega)), wrap64_id (a := g + m) (isI64_mk (by omega) (by omega)), wrap64_id (a := ((i : Int) - 1) * s) (isI64_mk (by omega) (by omega)), wrap64_id (a := ((i : Int) - 1) * (g + m)) (isI64_mk (by omega) (by omega)),
        rate_eq (isI64_mk (by omega) (by omega)) (isI64_mk (by omega) (by omega))]
      simp only [Option.bind_some, probe_Probe_Best.f]
      have e : (15000 + s - 1) / s = (i : Int) := by
        have q1 : (i : Int) ≤ (15000 + s - 1) / s := (Int.le_ediv_iff_mul_le (by omega)).2 (by rw [Int.sub_mul] at hn1; omega)
        have q2 : (15000 + s - 1) / s < (i : Int) + 1 := (Int.ediv_lt_iff_lt_mul (by omega)).2 (by rw [Int.add_mul]; omega)
        omega
      rw [if_pos hx1, if_pos hx2, if_neg (by omega), wrap64_id (a := 15000 + s) (isI64_mk (by omega) (by omega)), wrap64_id (a := 15000 + s - 1) (isI64_mk (by omega) (by omega)), Int.tdiv_eq_ediv_of_nonneg (by omega), e, wrap64_id (isI64_mk (by omega) (by omega)), if_pos rfl]
      exact wk26
    | succ d ih =>
      intro i k x best bytes fr to_ ls ea la fs hi hk h hx
      obtain ⟨k, rfl⟩ : ∃ j, k = j + 1 := ⟨k - 1, by omega⟩
      obtain ⟨h1, h2, h3, h4⟩ := h
      have p0 : 0 ≤ (i : Int) * s ∧ (i : Int) * s ≤ 74 * 1500 := ⟨Int.mul_nonneg (by omega) (by omega), Int.mul_le_mul (by omega) (by omega) (by omega) (by omega)⟩
      have p1 : 0 ≤ (i : Int) * g ∧ (i : Int) * g ≤ 74 * 5000 := ⟨Int.mul_nonneg (by omega) (by omega), Int.mul_le_mul (by omega) (by omega) (by omega) (by omega)⟩
      have p2 : 0 ≤ (i : Int) * (g + m) ∧ (i : Int) * (g + m) ≤ 74 * 9999 := ⟨Int.mul_nonneg (by omega) (by omega), Int.mul_le_mul (by omega) (by omega) (by omega) (by omega)⟩
      have b1 : ((i : Int) - 1) * g = (i : Int) * g - g := by rw [Int.sub_mul]; omega
      have b2 : ((i : Int) - 1) * (g + m) = (i : Int) * (g + m) - (g + m) := by rw [Int.sub_mul]; omega
      have b4 : 0 < i → s ≤ (i : Int) * s := fun q => by
        have := Int.mul_le_mul_of_nonneg_right (show (1 : Int) ≤ (i : Int) by omega) (show 0 ≤ s by omega)
        omega
      have b5 : 0 < i → g ≤ (i : Int) * g := fun q => by
        have := Int.mul_le_mul_of_nonneg_right (show (1 : Int) ≤ (i : Int) by omega) (show 0 ≤ g by omega)
        omega
      have b6 : 0 < i → g + m ≤ (i : Int) * (g + m) := fun q => by
        have := Int.mul_le_mul_of_nonneg_right (show (1 : Int) ≤ (i : Int) by omega) (show 0 ≤ g + m by omega)
        omega
      have ci : CI 15000 i bytes fr to_ ls ea la fs := by
        unfold CI
        rcases Nat.eq_zero_or_pos i with q | q
        · obtain ⟨z1, z2, z3, z4, z5⟩ := h3 (by omega)
          rw [h1, h2, z1, z2, z3, z4, z5]; omega
        · obtain ⟨z1, z2, z3, z4, z5⟩ := h4 (by omega)
          have := b4 q; have := b5 q; have := b6 q
          rw [h1, h2, z1, z2, z3, z4, z5, b1, b2]; omega
      simp only [flywheellaw26_ProbeFinds.l1]
      rw [if_pos (by omega), wrap64_id (a := g + m) (isI64_mk (by omega) (by omega)), wrap64_id (a := (i : Int) * g) (isI64_mk (by omega) (by omega)), wrap64_id (a := (i : Int) * (g + m)) (isI64_mk (by omega) (by omega)), wrap64_id (a := 7 + (i : Int) * (g + m)) (isI64_mk (by omega) (by omega)),
        got_eq k (by omega) ci (by omega) (by omega) (by omega) (by omega) p1.1 (by omega) (by omega) (by omega)]
      simp only [Option.bind_some]
      have e1 : t_fr i fr ((i : Int) * g) = 0 := by
        unfold t_fr mn
        rw [h2]
        rcases Nat.eq_zero_or_pos i with q | q
        · subst q; simp
        · rw [if_neg (show ¬ (i : Int) = 0 by omega), if_neg (by omega)]
      have e2 : t_to i to_ ((i : Int) * g) = (i : Int) * g := by
        unfold t_to
        rcases Nat.eq_zero_or_pos i with q | q
        · rw [if_pos (.inl (by omega))]
        · rw [if_pos (.inr (by rw [(h4 (by omega)).1, b1]; omega))]
      have e3 : t_ls i to_ ls ((i : Int) * g) s = s := by
        unfold t_ls
        rcases Nat.eq_zero_or_pos i with q | q
        · rw [if_pos (.inl (by omega))]
        · rw [if_pos (.inr (by rw [(h4 (by omega)).1, b1]; omega))]
      have e4 : t_ea i ea (7 + (i : Int) * (g + m)) = 7 := by
        unfold t_ea
        rcases Nat.eq_zero_or_pos i with q | q
        · subst q; simp
        · rw [if_neg (by rw [(h4 (by omega)).2.2.1]; omega), (h4 (by omega)).2.2.1]
      have e5 : t_la i la (7 + (i : Int) * (g + m)) = 7 + (i : Int) * (g + m) := by
        unfold t_la mx
        rcases Nat.eq_zero_or_pos i with q | q
        · subst q; simp
        · rw [if_neg (show ¬ (i : Int) = 0 by omega), (h4 (by omega)).2.2.2.1, b2, if_pos (by omega)]
      have e6 : t_fs i ea fs (7 + (i : Int) * (g + m)) s = s := by
        unfold t_fs
        rcases Nat.eq_zero_or_pos i with q | q
        · rw [if_pos (.inl (by omega))]
        · rw [if_neg (by rw [(h4 (by omega)).2.2.1]; omega), (h4 (by omega)).2.2.2.2]
      rw [e1, e2, e3, e4, e5, e6, wnn i (by omega)]
      have cast : ((i + 1 : Nat) : Int) = (i : Int) + 1 := by omega
      have cl : Cl s g (g + m) ((i + 1 : Nat) : Int) (bytes + s) 0 ((i : Int) * g) s 7 (7 + (i : Int) * (g + m)) s := by
        refine ⟨by rw [cast, Int.add_mul, h1]; omega, rfl, fun q => by omega, fun _ => ⟨?_, rfl, rfl, ?_, rfl⟩⟩
        · rw [cast, show (i : Int) + 1 - 1 = (i : Int) by omega]
        · rw [cast, show (i : Int) + 1 - 1 = (i : Int) by omega]
      have fin := ih (i + 1) k (resv 15000 ((i : Int) + 1) (bytes + s) 0 ((i : Int) * g) s 7 (7 + (i : Int) * (g + m)) s) (mx best (resv 15000 ((i : Int) + 1) (bytes + s) 0 ((i : Int) * g) s 7 (7 + (i : Int) * (g + m)) s)) (bytes + s) 0 ((i : Int) * g) s 7 (7 + (i : Int) * (g + m)) s (by omega) (by omega) cl (fun q => by
        have qi : (i : Int) = (n : Int) - 1 := by omega
        have i3 : 0 < i := by omega
        have := b4 i3; have := b5 i3; have := b6 i3
        have hs : (n : Int) * s = (i : Int) * s + s := by rw [show (n : Int) = (i : Int) + 1 by omega, Int.add_mul]; omega
        have e : resv 15000 ((i : Int) + 1) (bytes + s) 0 ((i : Int) * g) s 7 (7 + (i : Int) * (g + m)) s = rv (((n : Int) - 1) * s) (((n : Int) - 1) * (g + m)) := by
          unfold resv
          have t75 : Int.tdiv 15000 2 = 7500 := by decide
          rw [t75, if_neg (by omega), show bytes + s - s = (i : Int) * s by omega, show (i : Int) * g - 0 = (i : Int) * g by omega, show 7 + (i : Int) * (g + m) - 7 = (i : Int) * (g + m) by omega, ← qi]
          have := rv_anti (a := (i : Int) * s) (t := (i : Int) * g) (u := (i : Int) * (g + m)) (by omega) (by omega) (Int.mul_le_mul_of_nonneg_left (by omega) (by omega))
          unfold mn
          split <;> omega
        refine ⟨e, ?_⟩
        unfold mx
        split <;> omega)
      rw [cast] at fin
      rw [cast]
      exact fin
  -- what was sent
  have first : ∀ (d n k : Nat), n + d = 75 → d + 100 ≤ k → (n : Int) * s < 15000 → flywheellaw26_ProbeFinds.l0 k s g m n 1 1 1 0 1 8000000 15000 (15000 - (n : Int) * s) 0 0 0 0 0 0 0 0 = some true := by
    intro d
    induction d with
    | zero =>
      intro n k hn hk h
      have : (75 : Int) * 200 ≤ (n : Int) * s := Int.mul_le_mul (by omega) (by omega) (by decide) (by omega)
      omega
    | succ d ih =>
      intro n k hn hk h
      obtain ⟨k, rfl⟩ : ∃ j, k = j + 1 := ⟨k - 1, by omega⟩
      have p0 : 0 ≤ (n : Int) * s := Int.mul_nonneg (by omega) (by omega)
      have p1 : 0 ≤ (n : Int) * g ∧ (n : Int) * g ≤ 75 * 5000 := ⟨Int.mul_nonneg (by omega) (by omega), Int.mul_le_mul (by omega) (by omega) (by omega) (by omega)⟩
      have hs : ((n + 1 : Nat) : Int) * s = (n : Int) * s + s := by rw [show ((n + 1 : Nat) : Int) = (n : Int) + 1 by omega, Int.add_mul]; omega
      simp only [flywheellaw26_ProbeFinds.l0, if_true]
      rw [wrap64_id (a := (n : Int) * g) (isI64_mk (by omega) (by omega)), sent_eq (n := 0) (by omega) (by omega) p1.1 (by omega) (by omega) (by omega)]
      simp only [Option.bind_some, if_true]
      rw [open_eq (by split; exact .inl rfl; exact .inr rfl)]
      simp only [Option.bind_some]
      rw [wnn n (by omega)]
      by_cases c1 : 15000 - (n : Int) * s - s ≤ 0
      · rw [if_pos c1]
        obtain ⟨k, rfl⟩ : ∃ j, k = j + 1 := ⟨k - 1, by omega⟩
        simp only [flywheellaw26_ProbeFinds.l0]
        rw [if_neg (by decide)]
        have n10 : 9 ≤ n := by
          rcases Nat.lt_or_ge n 9 with q | q
          · have : ((n : Int) + 1) * s ≤ 9 * 1500 := Int.mul_le_mul (by omega) (by omega) (by omega) (by omega)
            rw [Int.add_mul] at this
            omega
          · exact q
        have z := second (n + 1) (15000 - (n : Int) * s - s) (by omega) (by omega) (by rw [hs]; omega) (by rw [show ((n + 1 : Nat) : Int) - 1 = (n : Int) by omega]; exact h) (n + 1) 0 k 0 0 0 0 0 0 0 0 0 (by omega) (by omega) ⟨by simp, rfl, fun _ => ⟨rfl, rfl, rfl, rfl, rfl⟩, fun q => absurd q (by decide)⟩ (fun q => by omega)
        exact z
      · rw [if_neg c1, show 15000 - (n : Int) * s - s = 15000 - ((n + 1 : Nat) : Int) * s by rw [hs]; omega]
        exact ih (n + 1) k (by omega) (by omega) (by rw [hs]; omega)
  have z := first 75 0 400 (by omega) (by omega) (by simp)
  simpa using z
end Go.Proofs.Ytlgfnclgkhfhpaa.Pure
end

section

end

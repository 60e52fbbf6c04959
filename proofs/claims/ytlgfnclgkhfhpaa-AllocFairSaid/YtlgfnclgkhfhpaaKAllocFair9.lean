-- PUT TOGETHER by a program of this session: of the claim's texts, what is used
import Derived.Test.YtlgfnclgkhfhpaaKAllocFair7
import Derived.Test.YtlgfnclgkhfhpaaKAllocFair8
import Derived.WalkArith
import Derived.KernelRfl
section
namespace Go.Proofs.Ytlgfnclgkhfhpaa.P
open Go.RowKit
set_option linter.unusedVariables false
set_option linter.unusedSimpArgs false
def md (a b c how : Int) : Int := (mdq a b c how).1
theorem isI64_of_wf {a : Int} (h : (Lit.int .i64 a).wf = true) : isI64 a := by
  simp only [Lit.wf, IntKind.min, IntKind.max, IntKind.signed, IntKind.bits, Bool.and_eq_true, decide_eq_true_eq] at h
  unfold isI64; simp at h; omega
theorem wrap64_id {a : Int} (h : isI64 a) : wrap64 a = a := by unfold isI64 at h; unfold wrap64; omega
theorem isI64_mk {a : Int} (h : -9223372036854775808 ≤ a) (h' : a ≤ 9223372036854775807) : isI64 a := ⟨h, h'⟩
theorem hold64_id (q : Int) (h : isI64 q) : hold64 q = (q, true) := by
  unfold isI64 at h; unfold hold64
  rw [if_neg (by omega), if_neg (by omega)]
theorem do_eq {a b c : Int} (how : Int) (ha : isI64 a) (hb : isI64 b) (hc : isI64 c) : muldiv_Do.f a b c how = some (md a b c how) := by
  unfold muldiv_Do.f muldiv_quotient_s.f
  rw [if_pos ⟨ha, hb, hc⟩]; rfl
theorem md_pos {a b c how : Int} (hc : 0 < c) (h1 : 1 ≤ how) (h3 : how ≤ 3) : md a b c how = (hold64 (rnd (a * b) c how)).1 := by
  unfold md mdq
  rw [if_neg (by omega), if_neg (by omega)]
theorem rnd_down (n d : Int) : rnd n d 1 = n / d := by unfold rnd; rw [if_pos rfl]
theorem md_down {a b c : Int} (hc : 0 < c) (h : isI64 (a * b / c)) : md a b c 1 = a * b / c := by
  rw [md_pos hc (by decide) (by decide), rnd_down, hold64_id _ h]
end Go.Proofs.Ytlgfnclgkhfhpaa.P
end

section
namespace Go.Proofs.Ytlgfnclgkhfhpaa.P
open Go.RowKit
set_option linter.unusedVariables false
set_option linter.unusedSimpArgs false
def hd (x : Int) : Int := (hold64 x).1
end Go.Proofs.Ytlgfnclgkhfhpaa.P
end

section
namespace Go.Proofs.Ytlgfnclgkhfhpaa.P
open Go.RowKit Go.Proofs.YtlgfnclgkhfhpaaW.PrintWords Go.Proofs.YtlgfnclgkhfhpaaW.PrintLast Go.Proofs.YtlgfnclgkhfhpaaW.PrintMore
set_option linter.unusedVariables false
set_option linter.unusedSimpArgs false
abbrev wt (l : List S31) (i : Nat) : Int := (rd_T31 l i).f0
abbrev lo (l : List S31) (i : Nat) : Int := (rd_T31 l i).f1
abbrev up (l : List S31) (i : Nat) : Int := (rd_T31 l i).f2
def Ok27 (l : List S31) : Prop := l.length ≤ 8 ∧ ∀ i : Nat, i < l.length → 1 ≤ wt l i ∧ wt l i ≤ 1000 ∧ 0 ≤ lo l i ∧ lo l i ≤ up l i ∧ up l i ≤ 17179869184
instance (l : List S31) : Decidable (Ok27 l) := by unfold Ok27; infer_instance
theorem w_next {i n : Nat} (h : i ≤ n) (hn : n ≤ 200) : wrap64 ((i : Int) + 1) = ((i + 1 : Nat) : Int) := by rw [wrap64_id (isI64_mk (by omega) (by omega))]; omega
def bad (l : List S31) (i : Nat) : Prop := wt l i < 1 ∨ wt l i > 1000 ∨ lo l i < 0 ∨ up l i < lo l i ∨ up l i > 17179869184
instance (l : List S31) (i : Nat) : Decidable (bad l i) := by unfold bad; infer_instance
theorem ok27_iff (l : List S31) (h : l.length ≤ 8) : Ok27 l ↔ ∀ i : Nat, i < l.length → ¬ bad l i := by
  constructor
  · intro hh i hi hb
    have := hh.2 i hi
    unfold bad at hb; omega
  · intro hh
    refine ⟨h, fun i hi => ?_⟩
    have := hh i hi
    unfold bad at this; omega
theorem good_loop (l : List S31) (h : l.length ≤ 8) : ∀ (m i k : Nat), i + m = l.length → m + 1 ≤ k → (∀ j : Nat, j < i → ¬ bad l j) → alloc_Good.l0 k l (l.length : Int) i = some (decide (Ok27 l)) := by
  intro m
  induction m with
  | zero =>
    intro i k hi hk hj
    obtain ⟨k, rfl⟩ : ∃ j, k = j + 1 := ⟨k - 1, by omega⟩
    simp only [alloc_Good.l0]
    rw [if_neg (by omega), decide_eq_true ((ok27_iff l h).2 fun j hjl => hj j (by omega))]
  | succ m ih =>
    intro i k hi hk hj
    obtain ⟨k, rfl⟩ : ∃ j, k = j + 1 := ⟨k - 1, by omega⟩
    simp only [alloc_Good.l0]
    rw [if_pos (by omega), if_pos (by omega), if_pos (by omega)]
    by_cases hb : bad l i
    · have no : decide (Ok27 l) = false := decide_eq_false fun hh => (ok27_iff l h).1 hh i (by omega) hb
      rw [no]
      unfold bad wt lo up at hb
      repeat' split
      all_goals first | rfl | omega
    · have hb' := hb
      unfold bad wt lo up at hb'
      rw [if_neg (by omega), if_neg (by omega), if_neg (by omega), if_neg (by omega), if_neg (by omega), w_next (n := 10) (by omega) (by omega)]
      exact ih (i + 1) k (by omega) (by omega) fun j hjl => by
        by_cases e : j = i
        · rw [e]; exact hb
        · exact hj j (by omega)
theorem good_eq (l : List S31) (k : Nat) (hk : 10 ≤ k) : alloc_Good.f k l = some (decide (Ok27 l)) := by
  unfold alloc_Good.f
  by_cases h : (l.length : Int) > 8
  · rw [if_pos h, decide_eq_false (fun hh => by have := hh.1; omega)]
  · rw [if_neg h]
    exact good_loop l (by omega) l.length 0 k (by omega) (by omega) (fun j hj => by omega)
theorem rgood_loop (l : List S31) (h : l.length ≤ 8) : ∀ (m i k : Nat), i + m = l.length → m + 1 ≤ k → (∀ j : Nat, j < i → ¬ bad l j) → flywheelref27_Good.l0 k l i = some (decide (Ok27 l)) := by
  intro m
  induction m with
  | zero =>
    intro i k hi hk hj
    obtain ⟨k, rfl⟩ : ∃ j, k = j + 1 := ⟨k - 1, by omega⟩
    simp only [flywheelref27_Good.l0]
    rw [if_neg (by omega), decide_eq_true ((ok27_iff l h).2 fun j hjl => hj j (by omega))]
  | succ m ih =>
    intro i k hi hk hj
    obtain ⟨k, rfl⟩ : ∃ j, k = j + 1 := ⟨k - 1, by omega⟩
    simp only [flywheelref27_Good.l0]
    rw [if_pos (by omega), if_pos (by omega)]
    by_cases hb : bad l i
    · have no : decide (Ok27 l) = false := decide_eq_false fun hh => (ok27_iff l h).1 hh i (by omega) hb
      rw [no]
      unfold bad wt lo up at hb
      repeat' split
      all_goals first | rfl | omega
    · have hb' := hb
      unfold bad wt lo up at hb'
      rw [if_neg (by omega), if_neg (by omega), if_neg (by omega), if_neg (by omega), if_neg (by omega), w_next (n := 10) (by omega) (by omega)]
      exact ih (i + 1) k (by omega) (by omega) fun j hjl => by
        by_cases e : j = i
        · rw [e]; exact hb
        · exact hj j (by omega)
theorem rgood_eq (l : List S31) (k : Nat) (hk : 10 ≤ k) : flywheelref27_Good.f k l = some (decide (Ok27 l)) := by
  unfold flywheelref27_Good.f
  by_cases h : (l.length : Int) > 8
  · rw [if_pos h, decide_eq_false (fun hh => by have := hh.1; omega)]
  · rw [if_neg h]
    exact rgood_loop l (by omega) l.length 0 k (by omega) (by omega) (fun j hj => by omega)
def need (l : List S31) (o : List Int) (i : Nat) : Prop := rd o i < up l i
instance (l : List S31) (o : List Int) (i : Nat) : Decidable (need l o i) := by unfold need; infer_instance
def ws (l : List S31) (o : List Int) : Nat → Int
  | 0 => 0
  | i + 1 => ws l o i + (if need l o i then wt l i else 0)
def fs (l : List S31) (o : List Int) : Nat → Int
  | 0 => -1
  | i + 1 => if need l o i then (if fs l o i < 0 then i else fs l o i) else fs l o i
def gv (l : List S31) (o : List Int) (left W : Int) : Nat → List Int × Int
  | 0 => (o, 0)
  | i + 1 => let p := gv l o left W i
    if need l p.1 i then (p.1.set i (rd p.1 i + mn (left * wt l i / W) (up l i - rd p.1 i)), p.2 + mn (left * wt l i / W) (up l i - rd p.1 i)) else p
def rnd27 (l : List S31) (o : List Int) (left : Int) : Int × Bool × List Int :=
  if fs l o l.length < 0 ∨ left = 0 then (0, false, o)
  else let p := gv l o left (ws l o l.length) l.length
    if p.2 = 0 then (1, true, p.1.set (fs l o l.length).toNat (rd p.1 (fs l o l.length) + 1)) else (p.2, true, p.1)
def InO (l : List S31) (o : List Int) : Prop := o.length = l.length ∧ ∀ i : Nat, i < l.length → 0 ≤ rd o i ∧ rd o i ≤ up l i
theorem ws_span {l : List S31} (h : Ok27 l) (o : List Int) : ∀ i : Nat, i ≤ l.length → 0 ≤ ws l o i ∧ ws l o i ≤ 1000 * i := by
  intro i
  induction i with
  | zero => intro _; simp [ws]
  | succ i ih =>
    intro hi
    have := ih (by omega)
    have w := h.2 i (by omega)
    simp only [ws]
    split <;> omega
theorem fs_span (l : List S31) (o : List Int) : ∀ i : Nat, -1 ≤ fs l o i ∧ fs l o i < i := by
  intro i
  induction i with
  | zero => simp [fs]
  | succ i ih =>
    simp only [fs]
    split
    · split <;> omega
    · omega
theorem fs_none (l : List S31) (o : List Int) : ∀ i : Nat, fs l o i < 0 → ∀ j : Nat, j < i → ¬ need l o j := by
  intro i
  induction i with
  | zero => intro _ j hj; omega
  | succ i ih =>
    intro h j hj
    simp only [fs] at h
    by_cases hn : need l o i
    · rw [if_pos hn] at h
      by_cases h2 : fs l o i < 0
      · rw [if_pos h2] at h; omega
      · rw [if_neg h2] at h; exact absurd h h2
    · rw [if_neg hn] at h
      by_cases e : j = i
      · rw [e]; exact hn
      · exact ih h j (by omega)
theorem fs_need (l : List S31) (o : List Int) : ∀ i : Nat, 0 ≤ fs l o i → need l o (fs l o i).toNat ∧ ∀ j : Nat, (j : Int) < fs l o i → ¬ need l o j := by
  intro i
  induction i with
  | zero => intro h; simp only [fs] at h; omega
  | succ i ih =>
    intro h
    simp only [fs] at h ⊢
    by_cases hn : need l o i
    · rw [if_pos hn] at h ⊢
      by_cases h2 : fs l o i < 0
      · rw [if_pos h2] at h ⊢
        refine ⟨by simpa using hn, fun j hj => fs_none l o i h2 j (by omega)⟩
      · rw [if_neg h2] at h ⊢; exact ih (by omega)
    · rw [if_neg hn] at h ⊢; exact ih h
theorem fs_uniq {l : List S31} {o : List Int} {i : Nat} {x : Int} (h1 : x = -1 ∧ (∀ j : Nat, j < i → ¬ need l o j) ∨ 0 ≤ x ∧ x < i ∧ need l o x.toNat ∧ ∀ j : Nat, (j : Int) < x → ¬ need l o j) : x = fs l o i := by
  have sp := fs_span l o i
  by_cases hf : fs l o i < 0
  · have hn := fs_none l o i hf
    rcases h1 with ⟨rfl, _⟩ | ⟨h2, h3, h4, _⟩
    · omega
    · exact absurd h4 (hn _ (by omega))
  · obtain ⟨a, b⟩ := fs_need l o i (by omega)
    rcases h1 with ⟨rfl, h⟩ | ⟨h2, h3, h4, h5⟩
    · exact absurd a (h _ (by omega))
    · rcases Int.lt_trichotomy x (fs l o i) with h | h | h
      · exact absurd h4 (b x.toNat (by omega))
      · exact h
      · exact absurd a (h5 (fs l o i).toNat (by omega))
theorem ws_pos {l : List S31} (h : Ok27 l) (o : List Int) : ∀ i : Nat, i ≤ l.length → ∀ j : Nat, j < i → need l o j → wt l j ≤ ws l o i := by
  intro i
  induction i with
  | zero => intro _ j hj; omega
  | succ i ih =>
    intro hi j hj hn
    have w := h.2 i (by omega)
    simp only [ws]
    by_cases e : j = i
    · rw [e] at hn ⊢
      rw [if_pos hn]; have := (ws_span h o i (by omega)).1; omega
    · have := ih (by omega) j (by omega) hn
      split <;> omega
theorem rd_set {o : List Int} {i : Nat} (hi : i < o.length) (v : Int) (j : Nat) : rd (o.set i v) j = if j = i then v else rd o j := by
  unfold rd
  simp only [Int.toNat_natCast, List.getD_eq_getElem?_getD, List.getElem?_set]
  by_cases e : i = j
  · subst e; simp [hi]
  · rw [if_neg e, if_neg (fun h => e h.symm)]
theorem part_span {l : List S31} (h : Ok27 l) {o : List Int} (ho : InO l o) {left : Int} (h0 : 0 ≤ left) (h1 : left ≤ 17179869184) {W : Int} {i : Nat} (hi : i < l.length) (hW : wt l i ≤ W) :
    0 ≤ left * wt l i / W ∧ left * wt l i / W ≤ left := by
  have w := h.2 i hi
  have hp : 0 ≤ left * wt l i := Int.mul_nonneg h0 (by omega)
  refine ⟨Int.ediv_nonneg hp (by omega), ?_⟩
  have : left * wt l i ≤ left * W := Int.mul_le_mul_of_nonneg_left hW h0
  exact Int.ediv_le_of_le_mul (by omega) this
theorem need_of_gv {l : List S31} {o : List Int} {left W : Int} : ∀ i : Nat, i ≤ o.length → ∀ j : Nat, i ≤ j → rd (gv l o left W i).1 j = rd o j ∧ (gv l o left W i).1.length = o.length := by
  intro i
  induction i with
  | zero => intro _ j _; exact ⟨rfl, rfl⟩
  | succ i ih =>
    intro hi j hj
    obtain ⟨e1, e2⟩ := ih (by omega) j (by omega)
    simp only [gv]
    split
    · refine ⟨?_, by simp only [List.length_set]; exact e2⟩
      rw [rd_set (by rw [e2]; omega), if_neg (by omega)]; exact e1
    · exact ⟨e1, e2⟩
theorem gv_ok {l : List S31} (h : Ok27 l) {o : List Int} (ho : InO l o) {left : Int} (h0 : 0 ≤ left) (h1 : left ≤ 17179869184) :
    ∀ i : Nat, i ≤ l.length → InO l (gv l o left (ws l o l.length) i).1 ∧ 0 ≤ (gv l o left (ws l o l.length) i).2 ∧ (gv l o left (ws l o l.length) i).2 ≤ 17179869184 * i ∧ ((gv l o left (ws l o l.length) i).2 = 0 → (gv l o left (ws l o l.length) i).1 = o) := by
  intro i
  induction i with
  | zero => intro _; exact ⟨ho, by simp [gv], by simp [gv], fun _ => rfl⟩
  | succ i ih =>
    intro hi
    obtain ⟨g1, g2, g3, g4⟩ := ih (by omega)
    have same := (need_of_gv (l := l) (o := o) (left := left) (W := ws l o l.length) i (by rw [ho.1]; omega) i (Nat.le_refl _)).1
    simp only [gv]
    generalize gv l o left (ws l o l.length) i = p at g1 g2 g3 g4 same ⊢
    by_cases hn : need l p.1 i
    · rw [if_pos hn]
      have hn' := hn
      unfold need at hn'
      have no : need l o i := by unfold need; rw [← same]; exact hn'
      have sp := part_span h ho h0 h1 (i := i) (by omega) (ws_pos h o l.length (Nat.le_refl _) i (by omega) no)
      have r := g1.2 i (by omega)
      generalize left * wt l i / ws l o l.length = q at sp ⊢
      have m0 : 0 ≤ mn q (up l i - rd p.1 i) ∧ mn q (up l i - rd p.1 i) ≤ q ∧ mn q (up l i - rd p.1 i) ≤ up l i - rd p.1 i := by unfold mn; split <;> omega
      generalize mn q (up l i - rd p.1 i) = n at m0 ⊢
      refine ⟨⟨by simp only [List.length_set]; exact g1.1, fun j hj => ?_⟩, by simp only []; omega, by simp only []; omega, fun hz => ?_⟩
      · rw [rd_set (by rw [g1.1]; omega)]
        by_cases e : j = i
        · rw [if_pos e, e]; omega
        · rw [if_neg e]; exact g1.2 j hj
      · simp only [] at hz ⊢
        have n0 : n = 0 := by omega
        rw [n0, Int.add_zero, g4 (by omega)]
        unfold rd
        simp only [Int.toNat_natCast]
        have hi' : i < o.length := by rw [ho.1]; omega
        rw [List.getD_eq_getElem?_getD, List.getElem?_eq_getElem hi', Option.getD_some]
        exact List.set_getElem_self hi'
    · rw [if_neg hn]
      exact ⟨g1, g2, by omega, g4⟩
end Go.Proofs.Ytlgfnclgkhfhpaa.P
end

section
namespace Go.Proofs.Ytlgfnclgkhfhpaa.P
open Go.RowKit Go.Proofs.YtlgfnclgkhfhpaaW.PrintWords Go.Proofs.YtlgfnclgkhfhpaaW.PrintLast Go.Proofs.YtlgfnclgkhfhpaaW.PrintMore
set_option linter.unusedVariables false
set_option linter.unusedSimpArgs false
theorem gv_do {l : List S31} (h : Ok27 l) {o : List Int} (ho : InO l o) {left : Int} (h0 : 0 ≤ left) (h1 : left ≤ 17179869184) {i : Nat} (hi : i < l.length) (hn : need l (gv l o left (ws l o l.length) i).1 i) :
    isI64 (wt l i) ∧ isI64 (ws l o l.length) ∧ 0 < ws l o l.length ∧ 0 ≤ left * wt l i / ws l o l.length ∧ left * wt l i / ws l o l.length ≤ left := by
  have same := (need_of_gv (l := l) (o := o) (left := left) (W := ws l o l.length) i (by rw [ho.1]; omega) i (Nat.le_refl _)).1
  have no : need l o i := by unfold need at hn ⊢; rw [← same]; exact hn
  have wp := ws_pos h o l.length (Nat.le_refl _) i hi no
  have w := h.2 i hi
  have w2 := ws_span h o l.length (Nat.le_refl _)
  have l8 := h.1
  have sp := part_span h ho h0 h1 hi wp
  exact ⟨isI64_mk (by omega) (by omega), isI64_mk (by omega) (by omega), by omega, sp.1, sp.2⟩
theorem give_loop {l : List S31} (h : Ok27 l) {o : List Int} (ho : InO l o) {left : Int} (h0 : 0 < left) (h1 : left ≤ 17179869184) (hf : 0 ≤ fs l o l.length) :
    ∀ (m i k : Nat), i + m = l.length → m + 1 ≤ k → alloc_round.l1 k left (gv l o left (ws l o l.length) i).1 (ws l o l.length) (fs l o l.length) (gv l o left (ws l o l.length) i).2 l (l.length : Int) i = some (rnd27 l o left) := by
  intro m
  induction m with
  | zero =>
    intro i k hi hk
    obtain ⟨k, rfl⟩ : ∃ j, k = j + 1 := ⟨k - 1, by omega⟩
    have e : i = l.length := by omega
    subst e
    simp only [alloc_round.l1]
    rw [if_neg (by omega)]
    unfold rnd27
    rw [if_neg (show ¬ (fs l o l.length < 0 ∨ left = 0) by omega)]
    obtain ⟨g1, g2, g3, g4⟩ := gv_ok h ho (by omega) h1 l.length (Nat.le_refl _)
    have fsp := fs_span l o l.length
    simp only []
    generalize gv l o left (ws l o l.length) l.length = p at g1 g2 g3 g4 ⊢
    by_cases c : p.2 = 0
    · rw [if_pos c, if_pos c, if_pos hf, if_pos (by rw [g1.1]; omega)]
      have := g1.2 (fs l o l.length).toNat (by omega)
      rw [show ((fs l o l.length).toNat : Int) = fs l o l.length by omega] at this
      have hu := (h.2 (fs l o l.length).toNat (by omega)).2.2.2.2
      unfold up at this
      unfold up at hu
      rw [wrap64_id (isI64_mk (by omega) (by omega))]
    · rw [if_neg c, if_neg c]
  | succ m ih =>
    intro i k hi hk
    obtain ⟨k, rfl⟩ : ∃ j, k = j + 1 := ⟨k - 1, by omega⟩
    have step := ih (i + 1) k (by omega) (by omega)
    obtain ⟨g1, g2, g3, g4⟩ := gv_ok h ho (by omega) h1 i (by omega)
    simp only [alloc_round.l1]
    rw [if_pos (by omega), if_pos (by omega), if_pos (by omega), if_pos (by rw [g1.1]; omega)]
    have r := g1.2 i (by omega)
    have hw := h.2 i (by omega)
    have l8 := h.1
    simp only [gv] at step
    rw [w_next (n := 10) (by omega) (by omega)]
    by_cases hn : need l (gv l o left (ws l o l.length) i).1 i
    · obtain ⟨e1, e2, e3, e4, e5⟩ := gv_do h ho (by omega) h1 (by omega) hn
      rw [if_pos hn] at step
      have hn' := hn
      unfold need at hn'
      unfold up at r hw hn' step
      unfold wt at e1 e4 e5 hw step
      rw [wrap64_id (a := (rd_T31 l (i : Int)).f2 - rd (gv l o left (ws l o l.length) i).1 i) (isI64_mk (by omega) (by omega)), if_pos (by omega), do_eq 1 (isI64_mk (by omega) (by omega)) e1 e2, md_down e3 (isI64_mk (by omega) (by omega))]
      simp only [Option.bind_some]
      generalize left * (rd_T31 l (i : Int)).f0 / ws l o l.length = q at e4 e5 step ⊢
      have m0 : 0 ≤ mn q ((rd_T31 l (i : Int)).f2 - rd (gv l o left (ws l o l.length) i).1 i) ∧ mn q ((rd_T31 l (i : Int)).f2 - rd (gv l o left (ws l o l.length) i).1 i) ≤ q := by unfold mn; split <;> omega
      generalize mn q ((rd_T31 l (i : Int)).f2 - rd (gv l o left (ws l o l.length) i).1 i) = n at m0 step ⊢
      rw [wrap64_id (a := rd (gv l o left (ws l o l.length) i).1 i + n) (isI64_mk (by omega) (by omega)), wrap64_id (a := (gv l o left (ws l o l.length) i).2 + n) (isI64_mk (by omega) (by omega))]
      simpa using step
    · rw [if_neg hn] at step
      have hn' := hn
      unfold need at hn'
      unfold up at r hw hn'
      rw [wrap64_id (a := (rd_T31 l (i : Int)).f2 - rd (gv l o left (ws l o l.length) i).1 i) (isI64_mk (by omega) (by omega)), if_neg (by omega)]
      exact step
theorem round_loop {l : List S31} (h : Ok27 l) {o : List Int} (ho : InO l o) {left : Int} (h0 : 0 ≤ left) (h1 : left ≤ 17179869184) :
    ∀ (m i k : Nat), i + m = l.length → m + 20 ≤ k → alloc_round.l0 k left l o (ws l o i) (fs l o i) l (l.length : Int) i = some (rnd27 l o left) := by
  intro m
  induction m with
  | zero =>
    intro i k hi hk
    obtain ⟨k, rfl⟩ : ∃ j, k = j + 2 := ⟨k - 2, by omega⟩
    have e : i = l.length := by omega
    subst e
    have l8 := h.1
    simp only [alloc_round.l0]
    rw [if_neg (by omega)]
    by_cases c : fs l o l.length < 0
    · rw [if_pos c]
      simp only [alloc_round.j1, if_true]
      unfold rnd27
      rw [if_pos (show fs l o l.length < 0 ∨ left = 0 from .inl c)]
    · rw [if_neg c]
      by_cases c2 : left = 0
      · subst c2
        simp only [alloc_round.j1]
        unfold rnd27
        rw [if_pos (show ((0 : Int) == 0) = true by decide), if_pos (show fs l o l.length < 0 ∨ (0 : Int) = 0 from .inr rfl)]
      · have e0 : (left == 0) = false := beq_eq_false_iff_ne.mpr c2
        rw [e0]
        simp only [alloc_round.j1, Bool.false_eq_true, if_false]
        exact give_loop h ho (by omega) h1 (by omega) l.length 0 k (by omega) (by omega)
  | succ m ih =>
    intro i k hi hk
    obtain ⟨k, rfl⟩ : ∃ j, k = j + 1 := ⟨k - 1, by omega⟩
    have step := ih (i + 1) k (by omega) (by omega)
    have hw := h.2 i (by omega)
    have l8 := h.1
    have w2 := ws_span h o i (by omega)
    simp only [alloc_round.l0]
    rw [if_pos (by omega), if_pos (by omega), if_pos (by omega), if_pos (by rw [ho.1]; omega), w_next (n := 10) (by omega) (by omega)]
    simp only [ws, fs] at step
    by_cases hn : need l o i
    · rw [if_pos hn, if_pos hn] at step
      unfold need up at hn
      unfold wt at hw step
      rw [if_pos hn, wrap64_id (isI64_mk (by omega) (by omega))]
      by_cases c : fs l o i < 0
      · rw [if_pos c] at step ⊢; exact step
      · rw [if_neg c] at step ⊢; exact step
    · rw [if_neg hn, if_neg hn, Int.add_zero] at step
      unfold need up at hn
      rw [if_neg hn]; exact step
theorem round_eq {l : List S31} (h : Ok27 l) {o : List Int} (ho : InO l o) {left : Int} (h0 : 0 ≤ left) (h1 : left ≤ 17179869184) (k : Nat) (hk : 30 ≤ k) : alloc_round.f k left l o = some (rnd27 l o left) := by
  unfold alloc_round.f
  have l8 := h.1
  exact round_loop h ho h0 h1 l.length 0 k (by omega) (by omega)
theorem rdo27 {a b c : Int} (ha : isI64 a) (hb : isI64 b) (hc : isI64 c) : flywheelref02_Do.f a b c 1 = some (md a b c 1) := by
  unfold flywheelref02_Do.f flywheelref02_Did_s.f
  rw [if_pos ⟨ha, hb, hc⟩]; rfl
theorem rgive_loop {l : List S31} (h : Ok27 l) {o : List Int} (ho : InO l o) {left : Int} (h0 : 0 < left) (h1 : left ≤ 17179869184) (hf : 0 ≤ fs l o l.length) (k : Nat) :
    ∀ (m i : Nat), i + m = l.length → flywheelref27_Split.l3 (k + m + 1) l left (gv l o left (ws l o l.length) i).1 (ws l o l.length) (fs l o l.length) (gv l o left (ws l o l.length) i).2 i = flywheelref27_Split.l1 k l (left - (rnd27 l o left).1) (rnd27 l o left).2.2 := by
  intro m
  induction m with
  | zero =>
    intro i hi
    have e : i = l.length := by omega
    subst e
    simp only [flywheelref27_Split.l3]
    rw [if_neg (by omega)]
    unfold rnd27
    rw [if_neg (show ¬ (fs l o l.length < 0 ∨ left = 0) by omega)]
    obtain ⟨g1, g2, g3, g4⟩ := gv_ok h ho (by omega) h1 l.length (Nat.le_refl _)
    have fsp := fs_span l o l.length
    have l8 := h.1
    simp only []
    generalize gv l o left (ws l o l.length) l.length = p at g1 g2 g3 g4 ⊢
    by_cases c : p.2 = 0
    · rw [if_pos c, if_pos c, if_pos hf, if_pos (by rw [g1.1]; omega)]
      have := g1.2 (fs l o l.length).toNat (by omega)
      rw [show ((fs l o l.length).toNat : Int) = fs l o l.length by omega] at this
      have hu := (h.2 (fs l o l.length).toNat (by omega)).2.2.2.2
      unfold up at this
      unfold up at hu
      rw [wrap64_id (a := rd p.1 (fs l o l.length) + 1) (isI64_mk (by omega) (by omega)), wrap64_id (isI64_mk (by omega) (by omega))]
    · rw [if_neg c, if_neg c, wrap64_id (isI64_mk (by omega) (by omega))]
  | succ m ih =>
    intro i hi
    have step := ih (i + 1) (by omega)
    obtain ⟨g1, g2, g3, g4⟩ := gv_ok h ho (by omega) h1 i (by omega)
    rw [show k + (m + 1) + 1 = (k + m + 1) + 1 by omega]
    generalize k + m + 1 = K at step ⊢
    simp only [flywheelref27_Split.l3]
    rw [if_pos (by omega), if_pos (by omega), if_pos (by rw [g1.1]; omega)]
    have r := g1.2 i (by omega)
    have hw := h.2 i (by omega)
    have l8 := h.1
    simp only [gv] at step
    rw [w_next (n := 10) (by omega) (by omega)]
    by_cases hn : need l (gv l o left (ws l o l.length) i).1 i
    · obtain ⟨e1, e2, e3, e4, e5⟩ := gv_do h ho (by omega) h1 (by omega) hn
      rw [if_pos hn] at step
      have hn' := hn
      unfold need at hn'
      unfold up at r hw hn' step
      unfold wt at e1 e4 e5 hw step
      rw [if_pos hn', wrap64_id (a := (rd_T31 l (i : Int)).f2 - rd (gv l o left (ws l o l.length) i).1 i) (isI64_mk (by omega) (by omega)), rdo27 (isI64_mk (by omega) (by omega)) e1 e2, md_down e3 (isI64_mk (by omega) (by omega))]
      simp only [Option.bind_some]
      generalize left * (rd_T31 l (i : Int)).f0 / ws l o l.length = q at e4 e5 step ⊢
      have m0 : 0 ≤ mn q ((rd_T31 l (i : Int)).f2 - rd (gv l o left (ws l o l.length) i).1 i) ∧ mn q ((rd_T31 l (i : Int)).f2 - rd (gv l o left (ws l o l.length) i).1 i) ≤ q := by unfold mn; split <;> omega
      generalize mn q ((rd_T31 l (i : Int)).f2 - rd (gv l o left (ws l o l.length) i).1 i) = n at m0 step ⊢
      rw [wrap64_id (a := rd (gv l o left (ws l o l.length) i).1 i + n) (isI64_mk (by omega) (by omega)), wrap64_id (a := (gv l o left (ws l o l.length) i).2 + n) (isI64_mk (by omega) (by omega))]
      simpa using step
    · rw [if_neg hn] at step
      have hn' := hn
      unfold need up at hn'
      rw [if_neg hn']
      exact step
def fsx (l : List S31) (o : List Int) (m : Nat) (x : Int) : Prop := x = -1 ∧ (∀ j : Nat, m ≤ j → j < l.length → ¬ need l o j) ∨ (m : Int) ≤ x ∧ x < l.length ∧ need l o x.toNat ∧ ∀ j : Nat, m ≤ j → (j : Int) < x → ¬ need l o j
theorem rsum_loop {l : List S31} (h : Ok27 l) {o : List Int} (ho : InO l o) {left : Int} (h0 : 0 < left) (h1 : left ≤ 17179869184) (k : Nat) :
    ∀ (m : Nat) (x : Int), m ≤ l.length → fsx l o m x → flywheelref27_Split.l2 (k + l.length + 2 + m) l left o (ws l o l.length - ws l o m) x ((m : Int) - 1) = if fs l o l.length < 0 then some o else flywheelref27_Split.l1 k l (left - (rnd27 l o left).1) (rnd27 l o left).2.2 := by
  intro m
  induction m with
  | zero =>
    intro x hm hx
    have e : x = fs l o l.length := fs_uniq (by
      rcases hx with ⟨a, b⟩ | ⟨a, b, c, d⟩
      · exact .inl ⟨a, fun j hj => b j (by omega) hj⟩
      · exact .inr ⟨by omega, b, c, fun j hj => d j (by omega) hj⟩)
    subst e
    rw [show k + l.length + 2 + 0 = (k + l.length + 1) + 1 by omega]
    simp only [flywheelref27_Split.l2]
    rw [if_neg (by omega)]
    by_cases c : fs l o l.length < 0
    · rw [if_pos c, if_pos c]
    · rw [if_neg c, if_neg c]
      simp only [ws, Int.sub_zero]
      exact rgive_loop h ho h0 h1 (by omega) k l.length 0 (by omega)
  | succ m ih =>
    intro x hm hx
    have hw := h.2 m (by omega)
    have l8 := h.1
    have w1 := ws_span h o m (by omega)
    have w2 := ws_span h o l.length (Nat.le_refl _)
    rw [show k + l.length + 2 + (m + 1) = (k + l.length + 2 + m) + 1 by omega]
    have ei : (((m + 1 : Nat) : Int) - 1) = (m : Int) := by omega
    rw [ei]
    simp only [flywheelref27_Split.l2]
    rw [if_pos (by omega), if_pos (by omega), if_pos (by rw [ho.1]; omega), if_pos (by omega), wrap64_id (a := (m : Int) - 1) (isI64_mk (by omega) (by omega))]
    by_cases hn : need l o m
    · have step := ih m (by omega) (.inr ⟨Int.le_refl _, by omega, by simpa using hn, fun j hj hj' => by omega⟩)
      have e : ws l o (m + 1) = ws l o m + wt l m := by simp only [ws]; rw [if_pos hn]
      have w3 := ws_span h o (m + 1) (by omega)
      unfold need up at hn
      unfold wt at e hw
      rw [if_pos hn, e, wrap64_id (isI64_mk (by omega) (by omega)), show ws l o l.length - (ws l o m + (rd_T31 l (m : Int)).f0) + (rd_T31 l (m : Int)).f0 = ws l o l.length - ws l o m by omega]
      exact step
    · have step := ih x (by omega) (by
        rcases hx with ⟨a, b⟩ | ⟨a, b, c, d⟩
        · refine .inl ⟨a, fun j hj hj' => ?_⟩
          by_cases e : j = m
          · rw [e]; exact hn
          · exact b j (by omega) hj'
        · refine .inr ⟨by omega, b, c, fun j hj hj' => ?_⟩
          by_cases e : j = m
          · rw [e]; exact hn
          · exact d j (by omega) hj')
      have e : ws l o (m + 1) = ws l o m := by simp only [ws]; rw [if_neg hn, Int.add_zero]
      unfold need up at hn
      rw [if_neg hn, e]
      exact step
theorem rstep {l : List S31} (h : Ok27 l) {o : List Int} (ho : InO l o) {left : Int} (h0 : 0 < left) (h1 : left ≤ 17179869184) (k : Nat) :
    flywheelref27_Split.l1 (k + (2 * l.length + 3)) l left o = if fs l o l.length < 0 then some o else flywheelref27_Split.l1 k l (left - (rnd27 l o left).1) (rnd27 l o left).2.2 := by
  have l8 := h.1
  rw [show k + (2 * l.length + 3) = (k + l.length + 2 + l.length) + 1 by omega]
  simp only [flywheelref27_Split.l1]
  rw [if_pos (by omega), wrap64_id (isI64_mk (by omega) (by omega))]
  have := rsum_loop h ho h0 h1 k l.length (-1) (Nat.le_refl _) (.inl ⟨rfl, fun j a b => by omega⟩)
  rw [Int.sub_self] at this
  exact this
theorem rnd27_ok {l : List S31} (h : Ok27 l) {o : List Int} (ho : InO l o) {left : Int} (h0 : 0 < left) (h1 : left ≤ 17179869184) (hf : 0 ≤ fs l o l.length) :
    1 ≤ (rnd27 l o left).1 ∧ (rnd27 l o left).1 ≤ 274877906944 ∧ (rnd27 l o left).2.1 = true ∧ InO l (rnd27 l o left).2.2 := by
  have l8 := h.1
  obtain ⟨g1, g2, g3, g4⟩ := gv_ok h ho (by omega) h1 l.length (Nat.le_refl _)
  have fsp := fs_span l o l.length
  have fn := (fs_need l o l.length hf).1
  unfold rnd27
  rw [if_neg (show ¬ (fs l o l.length < 0 ∨ left = 0) by omega)]
  simp only []
  generalize gv l o left (ws l o l.length) l.length = p at g1 g2 g3 g4 ⊢
  by_cases c : p.2 = 0
  · rw [if_pos c]
    refine ⟨by simp only []; omega, by simp only []; omega, rfl, ?_⟩
    have e := g4 c
    simp only []
    rw [e]
    refine ⟨by simp only [List.length_set]; exact ho.1, fun j hj => ?_⟩
    rw [rd_set (by rw [ho.1]; omega)]
    have hr := ho.2 (fs l o l.length).toNat (by omega)
    unfold need at fn
    rw [show ((fs l o l.length).toNat : Int) = fs l o l.length by omega] at hr fn
    by_cases e2 : j = (fs l o l.length).toNat
    · rw [if_pos e2, e2]
      exact ⟨by omega, by omega⟩
    · rw [if_neg e2]; exact ho.2 j hj
  · rw [if_neg c]
    exact ⟨by simp only []; omega, by simp only []; omega, rfl, g1⟩
theorem rounds {l : List S31} (h : Ok27 l) : ∀ (d : Nat) (o : List Int) (left : Int), InO l o → 0 ≤ left → left ≤ 17179869184 → left.toNat ≤ d →
    ∃ res, InO l res ∧ (∀ k, 40 + d ≤ k → alloc_Split.l1 k l left o = some res) ∧ (∀ k, 30 + 20 * d ≤ k → flywheelref27_Split.l1 k l left o = some res) := by
  intro d
  induction d with
  | zero =>
    intro o left ho h0 h1 hd
    have e : left = 0 := by omega
    subst e
    refine ⟨o, ho, fun k hk => ?_, fun k hk => ?_⟩
    · obtain ⟨k, rfl⟩ : ∃ j, k = j + 1 := ⟨k - 1, by omega⟩
      simp only [alloc_Split.l1]
      rw [round_eq h ho (by omega) (by omega) k (by omega)]
      unfold rnd27
      rw [if_pos (show fs l o l.length < 0 ∨ (0 : Int) = 0 from .inr rfl)]
      simp
    · obtain ⟨k, rfl⟩ : ∃ j, k = j + 1 := ⟨k - 1, by omega⟩
      simp only [flywheelref27_Split.l1]
      rw [if_neg (by omega)]
  | succ d ih =>
    intro o left ho h0 h1 hd
    by_cases z : left = 0
    · obtain ⟨res, a, b, c⟩ := ih o left ho h0 h1 (by omega)
      exact ⟨res, a, fun k hk => b k (by omega), fun k hk => c k (by omega)⟩
    have l8 := h.1
    by_cases f : fs l o l.length < 0
    · refine ⟨o, ho, fun k hk => ?_, fun k hk => ?_⟩
      · obtain ⟨k, rfl⟩ : ∃ j, k = j + 1 := ⟨k - 1, by omega⟩
        simp only [alloc_Split.l1]
        rw [round_eq h ho (by omega) (by omega) k (by omega)]
        unfold rnd27
        rw [if_pos (show fs l o l.length < 0 ∨ left = 0 from .inl f)]
        simp
      · obtain ⟨k, rfl⟩ : ∃ j, k = j + (2 * l.length + 3) := ⟨k - (2 * l.length + 3), by omega⟩
        rw [rstep h ho (by omega) h1, if_pos f]
    obtain ⟨r1, r2, r3, r4⟩ := rnd27_ok h ho (by omega) h1 (by omega)
    by_cases g : left - (rnd27 l o left).1 > 0
    · obtain ⟨res, a, b, c⟩ := ih (rnd27 l o left).2.2 (left - (rnd27 l o left).1) r4 (by omega) (by omega) (by omega)
      refine ⟨res, a, fun k hk => ?_, fun k hk => ?_⟩
      · obtain ⟨k, rfl⟩ : ∃ j, k = j + 1 := ⟨k - 1, by omega⟩
        simp only [alloc_Split.l1]
        rw [round_eq h ho (by omega) (by omega) k (by omega)]
        simp only [Option.bind_some]
        rw [if_pos r3, wrap64_id (isI64_mk (by omega) (by omega)), if_pos g]
        exact b k (by omega)
      · obtain ⟨k, rfl⟩ : ∃ j, k = j + (2 * l.length + 3) := ⟨k - (2 * l.length + 3), by omega⟩
        rw [rstep h ho (by omega) h1, if_neg f]
        exact c k (by omega)
    · refine ⟨(rnd27 l o left).2.2, r4, fun k hk => ?_, fun k hk => ?_⟩
      · obtain ⟨k, rfl⟩ : ∃ j, k = j + 1 := ⟨k - 1, by omega⟩
        simp only [alloc_Split.l1]
        rw [round_eq h ho (by omega) (by omega) k (by omega)]
        simp only [Option.bind_some]
        rw [if_pos r3, wrap64_id (isI64_mk (by omega) (by omega)), if_neg g]
      · obtain ⟨k, rfl⟩ : ∃ j, k = j + 1 + (2 * l.length + 3) := ⟨k - 1 - (2 * l.length + 3), by omega⟩
        rw [rstep h ho (by omega) h1, if_neg f]
        simp only [flywheelref27_Split.l1]
        rw [if_neg g]
end Go.Proofs.Ytlgfnclgkhfhpaa.P
end

section
namespace Go.Proofs.Ytlgfnclgkhfhpaa.P
open Go.RowKit Go.Proofs.YtlgfnclgkhfhpaaW.PrintWords Go.Proofs.YtlgfnclgkhfhpaaW.PrintLast Go.Proofs.YtlgfnclgkhfhpaaW.PrintMore
set_option linter.unusedVariables false
set_option linter.unusedSimpArgs false
def fill (l : List S31) (T : Int) : Nat → List Int × Int
  | 0 => ([], T)
  | i + 1 => ((fill l T i).1 ++ [mn (lo l i) (fill l T i).2], (fill l T i).2 - mn (lo l i) (fill l T i).2)
theorem fill_ok {l : List S31} (h : Ok27 l) {T : Int} (h0 : 0 ≤ T) (h1 : T ≤ 17179869184) : ∀ i : Nat, i ≤ l.length →
    (fill l T i).1.length = i ∧ 0 ≤ (fill l T i).2 ∧ (fill l T i).2 ≤ 17179869184 ∧ ∀ j : Nat, j < i → 0 ≤ rd (fill l T i).1 j ∧ rd (fill l T i).1 j ≤ up l j := by
  intro i
  induction i with
  | zero => intro _; exact ⟨rfl, h0, h1, fun j hj => by omega⟩
  | succ i ih =>
    intro hi
    obtain ⟨a, b, c, d⟩ := ih (by omega)
    have hw := h.2 i (by omega)
    simp only [fill]
    have m0 : 0 ≤ mn (lo l i) (fill l T i).2 ∧ mn (lo l i) (fill l T i).2 ≤ (fill l T i).2 ∧ mn (lo l i) (fill l T i).2 ≤ lo l i := by unfold mn; split <;> omega
    generalize mn (lo l i) (fill l T i).2 = n at m0 ⊢
    refine ⟨by simp [a], by omega, by omega, fun j hj => ?_⟩
    have hr : rd ((fill l T i).1 ++ [n]) j = if j = i then n else rd (fill l T i).1 j := by
      unfold rd
      simp only [Int.toNat_natCast, List.getD_eq_getElem?_getD]
      by_cases e : j = i
      · rw [if_pos e, e, List.getElem?_append_right (by omega), a]; simp
      · rw [if_neg e, List.getElem?_append_left (by omega)]
    rw [hr]
    by_cases e : j = i
    · rw [if_pos e, e]; omega
    · rw [if_neg e]; exact d j (by omega)
theorem fill_loop {l : List S31} (h : Ok27 l) {T : Int} (h0 : 0 ≤ T) (h1 : T ≤ 17179869184) (k : Nat) : ∀ (m i : Nat), i + m = l.length →
    alloc_Split.l0 (k + m + 1) l (fill l T i).2 (fill l T i).1 l (l.length : Int) i = alloc_Split.l1 k l (fill l T l.length).2 (fill l T l.length).1 := by
  intro m
  induction m with
  | zero =>
    intro i hi
    have e : i = l.length := by omega
    subst e
    simp only [alloc_Split.l0]
    rw [if_neg (by omega)]
  | succ m ih =>
    intro i hi
    have step := ih (i + 1) (by omega)
    have hw := h.2 i (by omega)
    have l8 := h.1
    obtain ⟨a, b, c, d⟩ := fill_ok h h0 h1 i (by omega)
    rw [show k + (m + 1) + 1 = (k + m + 1) + 1 by omega]
    generalize k + m + 1 = K at step ⊢
    simp only [alloc_Split.l0]
    rw [if_pos (by omega), if_pos (by omega), if_pos (by omega), if_pos (by omega), w_next (n := 10) (by omega) (by omega)]
    simp only [fill] at step
    unfold lo at step hw
    have m0 : 0 ≤ mn (rd_T31 l (i : Int)).f1 (fill l T i).2 ∧ mn (rd_T31 l (i : Int)).f1 (fill l T i).2 ≤ (fill l T i).2 := by unfold mn; split <;> omega
    rw [wrap64_id (isI64_mk (by omega) (by omega))]
    exact step
theorem rfill_loop {l : List S31} (h : Ok27 l) {T : Int} (h0 : 0 ≤ T) (h1 : T ≤ 17179869184) (k : Nat) : ∀ (m i : Nat), i + m = l.length →
    flywheelref27_Split.l0 (k + m + 1) l (fill l T i).2 (fill l T i).1 i = flywheelref27_Split.l1 k l (fill l T l.length).2 (fill l T l.length).1 := by
  intro m
  induction m with
  | zero =>
    intro i hi
    have e : i = l.length := by omega
    subst e
    simp only [flywheelref27_Split.l0]
    rw [if_neg (by omega)]
  | succ m ih =>
    intro i hi
    have step := ih (i + 1) (by omega)
    have hw := h.2 i (by omega)
    have l8 := h.1
    obtain ⟨a, b, c, d⟩ := fill_ok h h0 h1 i (by omega)
    rw [show k + (m + 1) + 1 = (k + m + 1) + 1 by omega]
    generalize k + m + 1 = K at step ⊢
    simp only [flywheelref27_Split.l0]
    rw [if_pos (by omega), if_pos (by omega), if_pos (by omega), w_next (n := 10) (by omega) (by omega)]
    simp only [fill] at step
    unfold lo at step hw
    have m0 : 0 ≤ mn (rd_T31 l (i : Int)).f1 (fill l T i).2 ∧ mn (rd_T31 l (i : Int)).f1 (fill l T i).2 ≤ (fill l T i).2 := by unfold mn; split <;> omega
    rw [wrap64_id (isI64_mk (by omega) (by omega))]
    exact step
def big : Nat := 343597383780
theorem splits (l : List S31) (T : Int) : ∃ res, (Ok27 l → InO l res) ∧ (¬ Ok27 l → res = []) ∧ (∀ k, big ≤ k → alloc_Split.f k T l = some res) ∧ (∀ k, big ≤ k → flywheelref27_Split.f k T l = some res) := by
  by_cases h : Ok27 l
  · have l8 := h.1
    have hT : 0 ≤ (if T < 0 then 0 else if T > 17179869184 then 17179869184 else T) ∧ (if T < 0 then 0 else if T > 17179869184 then 17179869184 else T) ≤ 17179869184 := by repeat' split <;> omega
    generalize hc : (if T < 0 then 0 else if T > 17179869184 then 17179869184 else T) = T' at hT
    obtain ⟨a, b, c, d⟩ := fill_ok h hT.1 hT.2 l.length (Nat.le_refl _)
    obtain ⟨res, r1, r2, r3⟩ := rounds h 17179869184 (fill l T' l.length).1 (fill l T' l.length).2 ⟨a, d⟩ b c (by omega)
    refine ⟨res, fun _ => r1, fun hn => absurd h hn, fun k hk => ?_, fun k hk => ?_⟩
    · unfold big at hk
      unfold alloc_Split.f
      rw [good_eq l k (by omega), decide_eq_true h]
      simp only [Option.bind_some, if_true]
      rw [clamp_eq, hc]
      simp only [Option.bind_some]
      obtain ⟨k, rfl⟩ : ∃ j, k = j + l.length + 1 := ⟨k - (l.length + 1), by omega⟩
      have := fill_loop h hT.1 hT.2 k l.length 0 (by omega)
      simp only [fill] at this
      exact this.trans (r2 k (by omega))
    · unfold big at hk
      unfold flywheelref27_Split.f
      rw [rgood_eq l k (by omega), decide_eq_true h]
      simp only [Option.bind_some, if_true]
      rw [rclamp_eq, hc]
      simp only [Option.bind_some]
      obtain ⟨k, rfl⟩ : ∃ j, k = j + l.length + 1 := ⟨k - (l.length + 1), by omega⟩
      have := rfill_loop h hT.1 hT.2 k l.length 0 (by omega)
      simp only [fill] at this
      exact this.trans (r3 k (by omega))
  · refine ⟨[], fun hh => absurd hh h, fun _ => rfl, fun k hk => ?_, fun k hk => ?_⟩
    · unfold big at hk
      unfold alloc_Split.f
      rw [good_eq l k (by omega), decide_eq_false h]
      simp
    · unfold big at hk
      unfold flywheelref27_Split.f
      rw [rgood_eq l k (by omega), decide_eq_false h]
      simp
theorem wakes27 : flywheellaw27_wakes.f 60 = some true := by kernel_rfl
theorem wakes27_ge (k : Nat) (h : 60 ≤ k) : flywheellaw27_wakes.f k = some true := by
  obtain ⟨d, rfl⟩ : ∃ d, k = 60 + d := ⟨k - 60, by omega⟩
  clear h
  induction d with
  | zero => exact wakes27
  | succ d ih => exact flywheellaw27_wakes.mono _ _ ih
theorem awake27 (k : Nat) (h : 60 ≤ k) : ((flywheellaw27_wakes.f k).bind fun t => some t) = some true := by rw [wakes27_ge k h]; rfl
end Go.Proofs.Ytlgfnclgkhfhpaa.P
namespace Go.Proofs.Ytlgfnclgkhfhpaa.Pure
open Go.RowKit Go.Proofs.Ytlgfnclgkhfhpaa.P Go.Proofs.YtlgfnclgkhfhpaaW.PrintWords Go.Proofs.YtlgfnclgkhfhpaaW.PrintLast Go.Proofs.YtlgfnclgkhfhpaaW.PrintMore
end Go.Proofs.Ytlgfnclgkhfhpaa.Pure
end

section
namespace Go.Proofs.Ytlgfnclgkhfhpaa.P
open Go.RowKit Go.Proofs.YtlgfnclgkhfhpaaW.PrintWords Go.Proofs.YtlgfnclgkhfhpaaW.PrintLast Go.Proofs.YtlgfnclgkhfhpaaW.PrintMore
set_option linter.unusedVariables false
set_option linter.unusedSimpArgs false
end Go.Proofs.Ytlgfnclgkhfhpaa.P
namespace Go.Proofs.Ytlgfnclgkhfhpaa.Pure
open Go.RowKit Go.Proofs.Ytlgfnclgkhfhpaa.P Go.Proofs.YtlgfnclgkhfhpaaW.PrintWords Go.Proofs.YtlgfnclgkhfhpaaW.PrintLast Go.Proofs.YtlgfnclgkhfhpaaW.PrintMore
end Go.Proofs.Ytlgfnclgkhfhpaa.Pure
end

section
namespace Go.Proofs.Ytlgfnclgkhfhpaa.P
open Go.RowKit Go.Proofs.YtlgfnclgkhfhpaaW.PrintWords Go.Proofs.YtlgfnclgkhfhpaaW.PrintLast Go.Proofs.YtlgfnclgkhfhpaaW.PrintMore
set_option linter.unusedVariables false
set_option linter.unusedSimpArgs false
def sm (o : List Int) : Nat → Int
  | 0 => 0
  | i + 1 => sm o i + rd o i
theorem sm_set {o : List Int} {j : Nat} (hj : j < o.length) (v : Int) : ∀ i : Nat, sm (o.set j v) i = sm o i + if j < i then v - rd o j else 0 := by
  intro i
  induction i with
  | zero => simp [sm]
  | succ i ih =>
    simp only [sm]
    rw [ih, rd_set hj]
    by_cases e : i = j
    · subst e; rw [if_neg (by omega), if_pos rfl, if_pos (by omega)]; omega
    · rw [if_neg e]
      by_cases c : j < i
      · rw [if_pos c, if_pos (by omega)]; omega
      · rw [if_neg c, if_neg (by omega)]; omega
theorem gv_sm {l : List S31} {o : List Int} {left W : Int} : ∀ i : Nat, i ≤ o.length → sm (gv l o left W i).1 o.length = sm o o.length + (gv l o left W i).2 := by
  intro i
  induction i with
  | zero => intro _; simp [gv]
  | succ i ih =>
    intro hi
    have e := ih (by omega)
    have ln := (need_of_gv (l := l) (o := o) (left := left) (W := W) i (by omega) i (Nat.le_refl _)).2
    simp only [gv]
    split
    · simp only []
      rw [sm_set (by rw [ln]; omega), if_pos (by omega), e]; omega
    · exact e
theorem gv_le {l : List S31} (h : Ok27 l) {o : List Int} (ho : InO l o) {left : Int} (h0 : 0 ≤ left) (h1 : left ≤ 17179869184) : ∀ i : Nat, i ≤ l.length →
    ws l o l.length * (gv l o left (ws l o l.length) i).2 ≤ left * ws l o i ∧ ∀ j : Nat, rd o j ≤ rd (gv l o left (ws l o l.length) i).1 j := by
  intro i
  induction i with
  | zero => intro _; exact ⟨by simp [gv, ws], fun j => by simp [gv]⟩
  | succ i ih =>
    intro hi
    obtain ⟨a, b⟩ := ih (by omega)
    obtain ⟨g1, g2, g3, g4⟩ := gv_ok h ho h0 h1 i (by omega)
    have same := (need_of_gv (l := l) (o := o) (left := left) (W := ws l o l.length) i (by rw [ho.1]; omega) i (Nat.le_refl _)).1
    simp only [gv, ws]
    generalize gv l o left (ws l o l.length) i = p at a b g1 g2 g3 g4 same ⊢
    by_cases hn : need l p.1 i
    · have hn' := hn
      unfold need at hn'
      have no : need l o i := by unfold need; rw [← same]; exact hn'
      have wp := ws_pos h o l.length (Nat.le_refl _) i (by omega) no
      have w1 := (h.2 i (by omega)).1
      have sp := part_span h ho h0 h1 (i := i) (by omega) wp
      rw [if_pos hn, if_pos no]
      have r := g1.2 i (by omega)
      have mul := Int.mul_ediv_self_le (x := left * wt l i) (k := ws l o l.length) (by omega)
      generalize left * wt l i / ws l o l.length = q at sp mul ⊢
      have m0 : 0 ≤ mn q (up l i - rd p.1 i) ∧ mn q (up l i - rd p.1 i) ≤ q ∧ mn q (up l i - rd p.1 i) ≤ up l i - rd p.1 i := by unfold mn; split <;> omega
      generalize mn q (up l i - rd p.1 i) = n at m0 ⊢
      have le := Int.mul_le_mul_of_nonneg_left m0.2.1 (show 0 ≤ ws l o l.length by omega)
      refine ⟨by simp only [Int.mul_add]; omega, fun j => ?_⟩
      simp only []
      rw [rd_set (by rw [g1.1]; omega)]
      have := b j
      by_cases e : j = i
      · rw [if_pos e, e] at *; omega
      · rw [if_neg e]; exact this
    · have hn' := hn
      unfold need at hn'
      have no : ¬ need l o i := by unfold need; rw [← same]; exact hn'
      rw [if_neg hn, if_neg no, Int.add_zero]
      exact ⟨a, b⟩
theorem rnd_more {l : List S31} (h : Ok27 l) {o : List Int} (ho : InO l o) {left : Int} (h0 : 0 < left) (h1 : left ≤ 17179869184) (hf : 0 ≤ fs l o l.length) :
    (rnd27 l o left).1 ≤ left ∧ sm (rnd27 l o left).2.2 l.length = sm o l.length + (rnd27 l o left).1 ∧ ∀ j : Nat, rd o j ≤ rd (rnd27 l o left).2.2 j := by
  obtain ⟨g1, g2, g3, g4⟩ := gv_ok h ho (by omega) h1 l.length (Nat.le_refl _)
  obtain ⟨a, b⟩ := gv_le h ho (by omega) h1 l.length (Nat.le_refl _)
  have s := gv_sm (l := l) (o := o) (left := left) (W := ws l o l.length) l.length (by rw [ho.1]; omega)
  rw [ho.1] at s
  have fsp := fs_span l o l.length
  have fn := (fs_need l o l.length hf).1
  have wp := ws_pos h o l.length (Nat.le_refl _) (fs l o l.length).toNat (by omega) fn
  have w1 := (h.2 (fs l o l.length).toNat (by omega)).1
  have gl : (gv l o left (ws l o l.length) l.length).2 ≤ left := by
    rw [Int.mul_comm left] at a
    exact Int.le_of_mul_le_mul_left a (by omega)
  unfold rnd27
  rw [if_neg (show ¬ (fs l o l.length < 0 ∨ left = 0) by omega)]
  simp only []
  generalize gv l o left (ws l o l.length) l.length = p at g1 g2 g3 g4 a b s gl ⊢
  by_cases c : p.2 = 0
  · rw [if_pos c]
    have e := g4 c
    simp only []
    rw [e]
    refine ⟨by omega, ?_, fun j => ?_⟩
    · rw [sm_set (by rw [ho.1]; omega), if_pos (by omega), show ((fs l o l.length).toNat : Int) = fs l o l.length by omega]; omega
    · rw [rd_set (by rw [ho.1]; omega)]
      split
      · rename_i ej; rw [ej, show ((fs l o l.length).toNat : Int) = fs l o l.length by omega]; omega
      · exact Int.le_refl _
  · rw [if_neg c]
    exact ⟨gl, s, b⟩
theorem rounds_inv {l : List S31} (h : Ok27 l) (Inv : List Int → Int → Prop)
    (step : ∀ o left, InO l o → 0 < left → left ≤ 17179869184 → 0 ≤ fs l o l.length → Inv o left → Inv (rnd27 l o left).2.2 (left - (rnd27 l o left).1)) :
    ∀ (d : Nat) (o : List Int) (left : Int), InO l o → 0 ≤ left → left ≤ 17179869184 → left.toNat ≤ d → Inv o left →
    ∃ res left', InO l res ∧ Inv res left' ∧ 0 ≤ left' ∧ (left' = 0 ∨ fs l res l.length < 0) ∧ ∀ k, 40 + d ≤ k → alloc_Split.l1 k l left o = some res := by
  intro d
  induction d with
  | zero =>
    intro o left ho h0 h1 hd hi
    have e : left = 0 := by omega
    subst e
    refine ⟨o, 0, ho, hi, by omega, Or.inl rfl, fun k hk => ?_⟩
    obtain ⟨k, rfl⟩ : ∃ j, k = j + 1 := ⟨k - 1, by omega⟩
    simp only [alloc_Split.l1]
    rw [round_eq h ho (by omega) (by omega) k (by omega)]
    unfold rnd27
    rw [if_pos (show fs l o l.length < 0 ∨ (0 : Int) = 0 from .inr rfl)]
    simp
  | succ d ih =>
    intro o left ho h0 h1 hd hi
    by_cases z : left = 0
    · obtain ⟨res, left', a, b, c, e, f⟩ := ih o left ho h0 h1 (by omega) hi
      exact ⟨res, left', a, b, c, e, fun k hk => f k (by omega)⟩
    by_cases f : fs l o l.length < 0
    · refine ⟨o, left, ho, hi, h0, Or.inr f, fun k hk => ?_⟩
      obtain ⟨k, rfl⟩ : ∃ j, k = j + 1 := ⟨k - 1, by omega⟩
      simp only [alloc_Split.l1]
      rw [round_eq h ho (by omega) (by omega) k (by omega)]
      unfold rnd27
      rw [if_pos (show fs l o l.length < 0 ∨ left = 0 from .inl f)]
      simp
    obtain ⟨r1, r2, r3, r4⟩ := rnd27_ok h ho (by omega) h1 (by omega)
    have m := rnd_more h ho (by omega) h1 (by omega)
    have hi' := step o left ho (by omega) h1 (by omega) hi
    by_cases g : left - (rnd27 l o left).1 > 0
    · obtain ⟨res, left', a, b, c, e, f'⟩ := ih (rnd27 l o left).2.2 (left - (rnd27 l o left).1) r4 (by omega) (by omega) (by omega) hi'
      refine ⟨res, left', a, b, c, e, fun k hk => ?_⟩
      obtain ⟨k, rfl⟩ : ∃ j, k = j + 1 := ⟨k - 1, by omega⟩
      simp only [alloc_Split.l1]
      rw [round_eq h ho (by omega) (by omega) k (by omega)]
      simp only [Option.bind_some]
      rw [if_pos r3, wrap64_id (isI64_mk (by omega) (by omega)), if_pos g]
      exact f' k (by omega)
    · refine ⟨(rnd27 l o left).2.2, left - (rnd27 l o left).1, r4, hi', by omega, Or.inl (by omega), fun k hk => ?_⟩
      obtain ⟨k, rfl⟩ : ∃ j, k = j + 1 := ⟨k - 1, by omega⟩
      simp only [alloc_Split.l1]
      rw [round_eq h ho (by omega) (by omega) k (by omega)]
      simp only [Option.bind_some]
      rw [if_pos r3, wrap64_id (isI64_mk (by omega) (by omega)), if_neg g]
def cT (T : Int) : Int := if T < 0 then 0 else if T > 17179869184 then 17179869184 else T
theorem cT_span (T : Int) : 0 ≤ cT T ∧ cT T ≤ 17179869184 := by unfold cT; repeat' split <;> omega
theorem splits_inv {l : List S31} (h : Ok27 l) (T : Int) (Inv : List Int → Int → Prop)
    (step : ∀ o left, InO l o → 0 < left → left ≤ 17179869184 → 0 ≤ fs l o l.length → Inv o left → Inv (rnd27 l o left).2.2 (left - (rnd27 l o left).1))
    (start : Inv (fill l (cT T) l.length).1 (fill l (cT T) l.length).2) :
    ∃ res left', InO l res ∧ Inv res left' ∧ 0 ≤ left' ∧ (left' = 0 ∨ fs l res l.length < 0) ∧ ∀ k, big ≤ k → alloc_Split.f k T l = some res := by
  have l8 := h.1
  have hT := cT_span T
  obtain ⟨a, b, c, d⟩ := fill_ok h hT.1 hT.2 l.length (Nat.le_refl _)
  obtain ⟨res, left', r1, r2, r3, r4, r5⟩ := rounds_inv h Inv step 17179869184 (fill l (cT T) l.length).1 (fill l (cT T) l.length).2 ⟨a, d⟩ b c (by omega) start
  refine ⟨res, left', r1, r2, r3, r4, fun k hk => ?_⟩
  unfold big at hk
  unfold alloc_Split.f
  rw [good_eq l k (by omega), decide_eq_true h]
  simp only [Option.bind_some, if_true]
  rw [clamp_eq, show (if T < 0 then 0 else if T > 17179869184 then 17179869184 else T) = cT T from rfl]
  simp only [Option.bind_some]
  obtain ⟨k, rfl⟩ : ∃ j, k = j + l.length + 1 := ⟨k - (l.length + 1), by omega⟩
  have := fill_loop h hT.1 hT.2 k l.length 0 (by omega)
  simp only [fill] at this
  exact this.trans (r5 k (by omega))
theorem rd_app {o : List Int} {n : Int} {i j : Nat} (a : o.length = i) (hj : j ≤ i) : rd (o ++ [n]) j = if j = i then n else rd o j := by
  unfold rd
  simp only [Int.toNat_natCast, List.getD_eq_getElem?_getD]
  by_cases e : j = i
  · rw [if_pos e, e, List.getElem?_append_right (by omega), a]; simp
  · rw [if_neg e, List.getElem?_append_left (by omega)]
def so (l : List S31) : Nat → Int
  | 0 => 0
  | i + 1 => so l i + lo l i
theorem so_le {l : List S31} (h : Ok27 l) (i n : Nat) (hn : n ≤ l.length) (hi : i ≤ n) : so l i ≤ so l n := by
  induction n with
  | zero => have : i = 0 := by omega
            subst this; exact Int.le_refl _
  | succ n ih =>
    by_cases e : i = n + 1
    · subst e; exact Int.le_refl _
    · have := ih (by omega) (by omega)
      have w := h.2 n (by omega)
      simp only [so]; omega
theorem fill_least {l : List S31} (h : Ok27 l) {T : Int} (h0 : 0 ≤ T) (h1 : T ≤ 17179869184) (hs : so l l.length ≤ T) : ∀ i : Nat, i ≤ l.length → (fill l T i).2 = T - so l i ∧ ∀ j : Nat, j < i → rd (fill l T i).1 j = lo l j := by
  intro i
  induction i with
  | zero => intro _; exact ⟨by simp [fill, so], fun j hj => by omega⟩
  | succ i ih =>
    intro hi
    obtain ⟨e, f⟩ := ih (by omega)
    have a := (fill_ok h h0 h1 i (by omega)).1
    have le := so_le h (i + 1) l.length (Nat.le_refl _) hi
    simp only [so] at le
    have m : mn (lo l i) (fill l T i).2 = lo l i := by unfold mn; rw [if_neg (by omega)]
    simp only [fill, so]
    rw [m]
    refine ⟨by omega, fun j hj => ?_⟩
    rw [rd_app a (by omega)]
    by_cases c : j = i
    · rw [if_pos c, c]
    · rw [if_neg c]; exact f j (by omega)
end Go.Proofs.Ytlgfnclgkhfhpaa.P
end

section
namespace Go.Proofs.Ytlgfnclgkhfhpaa.P
open Go.RowKit Go.Proofs.YtlgfnclgkhfhpaaW.PrintWords Go.Proofs.YtlgfnclgkhfhpaaW.PrintLast Go.Proofs.YtlgfnclgkhfhpaaW.PrintMore
set_option linter.unusedVariables false
set_option linter.unusedSimpArgs false
theorem mnx (a b : Int) : mn a b = if b < a then b else a := rfl
theorem mxx (a b : Int) : mx a b = if a < b then b else a := rfl
theorem w64 {a : Int} (h0 : -4611686018427387904 ≤ a) (h1 : a ≤ 4611686018427387904) : wrap64 a = a := wrap64_id (isI64_mk (by omega) (by omega))
theorem cT_mx (T : Int) : mx 0 (mn T 17179869184) = cT T := by
  unfold cT
  rw [mxx, mnx]
  repeat' split
  all_goals omega
end Go.Proofs.Ytlgfnclgkhfhpaa.P
namespace Go.Proofs.Ytlgfnclgkhfhpaa.Pure
open Go.RowKit Go.Proofs.Ytlgfnclgkhfhpaa.P Go.Proofs.YtlgfnclgkhfhpaaW.PrintWords Go.Proofs.YtlgfnclgkhfhpaaW.PrintLast Go.Proofs.YtlgfnclgkhfhpaaW.PrintMore
end Go.Proofs.Ytlgfnclgkhfhpaa.Pure
end

section
namespace Go.Proofs.Ytlgfnclgkhfhpaa.P
open Go.RowKit Go.Proofs.YtlgfnclgkhfhpaaW.PrintWords Go.Proofs.YtlgfnclgkhfhpaaW.PrintLast Go.Proofs.YtlgfnclgkhfhpaaW.PrintMore
set_option linter.unusedVariables false
set_option linter.unusedSimpArgs false
def cnt (l : List S31) (o : List Int) : Nat → Int
  | 0 => 0
  | i + 1 => cnt l o i + (if need l o i then 1 else 0)
def sd (o : List Int) (a : Int) : Nat → Int
  | 0 => 0
  | i + 1 => sd o a i + (rd o i - a)
theorem sd_set {o : List Int} {j : Nat} (hj : j < o.length) (v a : Int) : ∀ i : Nat, sd (o.set j v) a i = sd o a i + if j < i then v - rd o j else 0 := by
  intro i
  induction i with
  | zero => simp [sd]
  | succ i ih =>
    simp only [sd]
    rw [ih, rd_set hj]
    by_cases e : i = j
    · subst e; rw [if_neg (by omega), if_pos rfl, if_pos (by omega)]; omega
    · rw [if_neg e]
      by_cases c : j < i
      · rw [if_pos c, if_pos (by omega)]; omega
      · rw [if_neg c, if_neg (by omega)]; omega
theorem sd_flat {o : List Int} {a : Int} {n : Nat} (h : ∀ j : Nat, j < n → rd o j = a) : ∀ i : Nat, i ≤ n → sd o a i = 0 := by
  intro i
  induction i with
  | zero => intro _; rfl
  | succ i ih =>
    intro hi
    simp only [sd]
    rw [ih (by omega), h i (by omega)]; omega
theorem sd_head {o : List Int} {a : Int} {n : Nat} (h : ∀ j : Nat, j < n → a ≤ rd o j) : ∀ i : Nat, i + 1 ≤ n → rd o (0 : Nat) - a ≤ sd o a (i + 1) := by
  intro i
  induction i with
  | zero => intro _; simp [sd]
  | succ i ih =>
    intro hi
    have := ih (by omega)
    have := h (i + 1) (by omega)
    rw [sd]; omega
theorem rp_rd {s : S31} {n i : Nat} (hi : i < n) : rd_T31 (List.replicate n s) i = s := by
  unfold rd_T31
  simp [List.getD_eq_getElem?_getD, hi]
theorem ws_cnt {s : S31} {n : Nat} (o : List Int) : ∀ i : Nat, i ≤ n → ws (List.replicate n s) o i = s.f0 * cnt (List.replicate n s) o i := by
  intro i
  induction i with
  | zero => intro _; simp [ws, cnt]
  | succ i ih =>
    intro hi
    simp only [ws, cnt, wt]
    rw [ih (by omega), rp_rd (by omega)]
    split
    · rw [Int.mul_add, Int.mul_one]
    · simp
theorem cnt_sd {s : S31} {n : Nat} {o : List Int} {a : Int} (ha : a < s.f2) (h : ∀ j : Nat, j < n → a ≤ rd o j) : ∀ i : Nat, i ≤ n → (i : Int) - cnt (List.replicate n s) o i ≤ sd o a i := by
  intro i
  induction i with
  | zero => intro _; simp [cnt, sd]
  | succ i ih =>
    intro hi
    have e := ih (by omega)
    have g := h i (by omega)
    have u : up (List.replicate n s) i = s.f2 := by show (rd_T31 _ _).f2 = _; rw [rp_rd (by omega)]
    simp only [cnt, sd]
    by_cases c : need (List.replicate n s) o i
    · rw [if_pos c]; omega
    · rw [if_neg c]
      unfold need at c
      rw [u] at c
      omega
def Fair (n : Nat) (o : List Int) (left : Int) : Prop := ∃ a : Int, (∀ j : Nat, j < n → a ≤ rd o j) ∧ (∀ j : Nat, j + 1 < n → rd o ((j + 1 : Nat) : Int) ≤ rd o j) ∧ ((∀ j : Nat, j < n → rd o j = a) ∨ sd o a n + left < n)
theorem fair_step {s : S31} {n : Nat} (h : Ok27 (List.replicate n s)) (o : List Int) (left : Int) (ho : InO (List.replicate n s) o) (h0 : 0 < left) (h1 : left ≤ 17179869184) (hf : 0 ≤ fs (List.replicate n s) o (List.replicate n s).length) (hi : Fair n o left) :
    Fair n (rnd27 (List.replicate n s) o left).2.2 (left - (rnd27 (List.replicate n s) o left).1) := by
  have len : (List.replicate n s).length = n := List.length_replicate
  have upn : ∀ j : Nat, j < n → up (List.replicate n s) j = s.f2 := fun j hj => by show (rd_T31 _ _).f2 = _; rw [rp_rd hj]
  have wtn : ∀ j : Nat, j < n → wt (List.replicate n s) j = s.f0 := fun j hj => by show (rd_T31 _ _).f0 = _; rw [rp_rd hj]
  have fsp := fs_span (List.replicate n s) o (List.replicate n s).length
  obtain ⟨fn, fb⟩ := fs_need (List.replicate n s) o (List.replicate n s).length hf
  have gok := fun i hi => gv_ok h ho (by omega) h1 i hi
  obtain ⟨g1, g2, g3, g4⟩ := gok _ (Nat.le_refl _)
  obtain ⟨a, b1, b2, b3⟩ := hi
  have W := ws_cnt (s := s) (n := n) o n (Nat.le_refl _)
  have ol : o.length = n := ho.1.trans len
  rw [len] at hf fsp fn fb g1 g2 g3 g4
  generalize hF : fs (List.replicate n s) o n = F at hf fsp fn fb
  have Fn : (F.toNat : Int) = F := by omega
  have fn' := fn
  unfold need at fn'
  rw [upn F.toNat (by omega)] at fn'
  have aF := b1 F.toNat (by omega)
  have au : a < s.f2 := by omega
  have w1 := (h.2 F.toNat (by omega)).1
  rw [wtn F.toNat (by omega)] at w1
  have body : rnd27 (List.replicate n s) o left = (if (gv (List.replicate n s) o left (ws (List.replicate n s) o n) n).2 = 0 then (1, true, (gv (List.replicate n s) o left (ws (List.replicate n s) o n) n).1.set F.toNat (rd (gv (List.replicate n s) o left (ws (List.replicate n s) o n) n).1 F + 1)) else ((gv (List.replicate n s) o left (ws (List.replicate n s) o n) n).2, true, (gv (List.replicate n s) o left (ws (List.replicate n s) o n) n).1)) := by
    unfold rnd27
    rw [len, hF, if_neg (by omega)]
  -- one more for the first that may have more
  have more : (gv (List.replicate n s) o left (ws (List.replicate n s) o n) n).2 = 0 → sd o a n + left < n → Fair n (rnd27 (List.replicate n s) o left).2.2 (left - (rnd27 (List.replicate n s) o left).1) := by
    intro z hs
    rw [body, if_pos z, g4 z]
    simp only []
    have Fr : rd o F = rd o F.toNat := by rw [Fn]
    refine ⟨a, fun j hj => ?_, fun j hj => ?_, Or.inr ?_⟩
    · rw [rd_set (by omega)]
      have := b1 j hj
      split
      · omega
      · exact this
    · rw [rd_set (by omega), rd_set (by omega)]
      have p := b2 j hj
      by_cases e1 : j + 1 = F.toNat
      · rw [if_pos e1, if_neg (by omega), Fr]
        have nn := fb j (by omega)
        unfold need at nn
        rw [upn j (by omega)] at nn
        omega
      · rw [if_neg e1]
        by_cases e2 : j = F.toNat
        · rw [if_pos e2, Fr, ← e2]; omega
        · rw [if_neg e2]; exact p
    · rw [sd_set (by omega), if_pos (by omega), Fr]; omega
  rcases b3 with flat | hs
  · -- all have as much
    have need_all : ∀ j : Nat, j < n → need (List.replicate n s) o j := fun j hj => by unfold need; rw [upn j hj, flat j hj]; exact au
    have ca : ∀ i : Nat, i ≤ n → cnt (List.replicate n s) o i = i := by
      intro i
      induction i with
      | zero => intro _; rfl
      | succ i ih => intro hi; simp only [cnt]; rw [ih (by omega), if_pos (need_all i (by omega))]; omega
    rw [ca n (Nat.le_refl _)] at W
    have q : left * s.f0 / ws (List.replicate n s) o n = left / n := by rw [W, Int.mul_comm left]; exact Int.mul_ediv_mul_of_pos _ _ (by omega)
    have gvs : ∀ i : Nat, i ≤ n → (∀ j : Nat, j < n → rd (gv (List.replicate n s) o left (ws (List.replicate n s) o n) i).1 j = if j < i then a + mn (left / n) (s.f2 - a) else a) ∧ (gv (List.replicate n s) o left (ws (List.replicate n s) o n) i).2 = (i : Int) * mn (left / n) (s.f2 - a) := by
      intro i
      induction i with
      | zero => intro _; exact ⟨fun j hj => by simp [gv, flat j hj], by simp [gv]⟩
      | succ i ih =>
        intro hi
        obtain ⟨x, y⟩ := ih (by omega)
        have ln := (gok i (by omega)).1.1
        rw [len] at ln
        have xi := x i (by omega)
        rw [if_neg (by omega)] at xi
        simp only [gv]
        generalize gv (List.replicate n s) o left (ws (List.replicate n s) o n) i = p at x y ln xi ⊢
        have nd : need (List.replicate n s) p.1 i := by unfold need; rw [upn i (by omega), xi]; exact au
        rw [if_pos nd, wtn i (by omega), upn i (by omega), xi, q]
        refine ⟨fun j hj => ?_, ?_⟩
        · simp only []
          rw [rd_set (by omega)]
          by_cases e : j = i
          · rw [if_pos e, if_pos (by omega)]
          · rw [if_neg e, x j hj]
            by_cases c : j < i
            · rw [if_pos c, if_pos (by omega)]
            · rw [if_neg c, if_neg (by omega)]
        · simp only []
          rw [y, show ((i + 1 : Nat) : Int) = (i : Int) + 1 by omega, Int.add_mul, Int.one_mul]
    obtain ⟨x, y⟩ := gvs n (Nat.le_refl _)
    by_cases z : (gv (List.replicate n s) o left (ws (List.replicate n s) o n) n).2 = 0
    · refine more z ?_
      rw [sd_flat flat n (Nat.le_refl _)]
      rw [y] at z
      have n1 : (1 : Int) ≤ n := by omega
      have c0 : mn (left / n) (s.f2 - a) = 0 := by
        rcases Int.mul_eq_zero.mp z with e | e
        · omega
        · exact e
      have q0 : left / n ≤ 0 := by rw [mnx] at c0; split at c0 <;> omega
      have r0 := Int.emod_lt_of_pos left (show (0 : Int) < n by omega)
      have r1 := Int.mul_ediv_add_emod left n
      have r2 : (n : Int) * (left / n) ≤ 0 := by
        have := Int.mul_le_mul_of_nonneg_left q0 (show (0 : Int) ≤ n by omega)
        omega
      omega
    · rw [body, if_neg z]
      simp only []
      refine ⟨a + mn (left / n) (s.f2 - a), fun j hj => ?_, fun j hj => ?_, Or.inl fun j hj => ?_⟩
      · rw [x j hj, if_pos hj]; exact Int.le_refl _
      · rw [x j (by omega), x (j + 1) hj, if_pos hj, if_pos (show j < n by omega)]; exact Int.le_refl _
      · rw [x j hj, if_pos hj]
  · -- less is left than may have more
    have cs := cnt_sd (s := s) au b1 n (Nat.le_refl _)
    have lc : left + 1 ≤ cnt (List.replicate n s) o n := by omega
    have q : left * s.f0 / ws (List.replicate n s) o n = 0 := by
      have m1 := Int.mul_le_mul_of_nonneg_left lc (show (0 : Int) ≤ s.f0 by omega)
      have m0 := Int.mul_nonneg (show (0 : Int) ≤ left by omega) (show (0 : Int) ≤ s.f0 by omega)
      rw [W]
      refine Int.ediv_eq_zero_of_lt m0 ?_
      rw [Int.mul_add, Int.mul_one, Int.mul_comm s.f0 left] at m1
      omega
    refine more ?_ hs
    have z : ∀ i : Nat, i ≤ n → (gv (List.replicate n s) o left (ws (List.replicate n s) o n) i).2 = 0 := by
      intro i
      induction i with
      | zero => intro _; rfl
      | succ i ih =>
        intro hi
        have e := ih (by omega)
        have r := (gok i (by omega)).1.2 i (by omega)
        simp only [gv]
        rw [len] at r
        generalize gv (List.replicate n s) o left (ws (List.replicate n s) o n) i = p at e r ⊢
        split
        · rw [wtn i (by omega), q]
          simp only []
          rw [e, mnx]
          split <;> omega
        · exact e
    exact z n (Nat.le_refl _)
theorem so_rp {s : S31} {n : Nat} : ∀ i : Nat, i ≤ n → so (List.replicate n s) i = s.f1 * i := by
  intro i
  induction i with
  | zero => intro _; simp [so]
  | succ i ih =>
    intro hi
    simp only [so, lo]
    rw [ih (by omega), rp_rd (by omega), show ((i + 1 : Nat) : Int) = (i : Int) + 1 by omega, Int.mul_add, Int.mul_one]
theorem split_fair {s : S31} {n : Nat} (h : Ok27 (List.replicate n s)) (T : Int) (hs : s.f1 * n ≤ cT T) : ∃ res, res.length = n ∧ (∀ j : Nat, j < n → 0 ≤ rd res j ∧ rd res j ≤ 17179869184) ∧ (∀ j : Nat, j < n → rd res j ≤ rd res (0 : Nat) ∧ rd res (0 : Nat) - rd res j < n) ∧ (∀ j : Nat, j + 1 < n → rd res ((j + 1 : Nat) : Int) ≤ rd res j) ∧
    ∀ k, big ≤ k → alloc_Split.f k T (List.replicate n s) = some res := by
  have len : (List.replicate n s).length = n := List.length_replicate
  have hT := cT_span T
  have lon : ∀ j : Nat, j < n → lo (List.replicate n s) j = s.f1 := fun j hj => by show (rd_T31 _ _).f1 = _; rw [rp_rd hj]
  obtain ⟨res, left', a, b, c, d, e⟩ := splits_inv h T (Fair n) (fair_step h) (by
    have fl := fill_least h hT.1 hT.2 (by rw [len, so_rp n (Nat.le_refl _)]; exact hs) n (by omega)
    rw [len]
    refine ⟨s.f1, fun j hj => by rw [fl.2 j hj, lon j hj]; exact Int.le_refl _, fun j hj => by rw [fl.2 j (by omega), fl.2 (j + 1) hj, lon j (by omega), lon (j + 1) hj]; exact Int.le_refl _, Or.inl fun j hj => by rw [fl.2 j hj, lon j hj]⟩)
  obtain ⟨x, b1, b2, b3⟩ := b
  have down : ∀ j : Nat, j < n → rd res j ≤ rd res (0 : Nat) := by
    intro j
    induction j with
    | zero => intro _; exact Int.le_refl _
    | succ j ih => intro hj; exact Int.le_trans (b2 j hj) (ih (by omega))
  refine ⟨res, a.1.trans len, fun j hj => ?_, fun j hj => ⟨down j hj, ?_⟩, b2, e⟩
  · have q1 := a.2 j (by omega)
    have q2 := h.2 j (by omega)
    exact ⟨q1.1, by omega⟩
  · rcases b3 with flat | hs'
    · rw [flat j hj, flat 0 (by omega)]; omega
    · have hd := sd_head b1 (n - 1) (by omega)
      rw [show n - 1 + 1 = n by omega] at hd
      have := b1 j hj
      omega
end Go.Proofs.Ytlgfnclgkhfhpaa.P
namespace Go.Proofs.Ytlgfnclgkhfhpaa.Pure
open Go.RowKit Go.Proofs.Ytlgfnclgkhfhpaa.P Go.Proofs.YtlgfnclgkhfhpaaW.PrintWords Go.Proofs.YtlgfnclgkhfhpaaW.PrintLast Go.Proofs.YtlgfnclgkhfhpaaW.PrintMore
set_option linter.unusedVariables false
set_option linter.unusedSimpArgs false
theorem mod8 {n : Int} (hn : isI64 n) : ∃ g, flywheelkeep_Mod.f n 8 = some g ∧ 0 ≤ g ∧ g < 8 := by
  unfold flywheelkeep_Mod.f
  rw [if_neg (by decide), if_neg (by decide)]
  have a0 := Int.lt_tmod_of_pos n (show (0 : Int) < 8 by decide)
  have a1 := Int.tmod_lt_of_pos n (show (0 : Int) < 8 by decide)
  rw [w64 (by omega) (by omega)]
  exact ⟨_, rfl, Int.tmod_nonneg _ (by omega), Int.tmod_lt_of_pos _ (by decide)⟩
theorem AllocFair : flywheellaw27_AllocFair.Pure := by
  intro T w lo' hi' m
  intros _ _ _ _ hm
  obtain ⟨g, eg, g0, g1⟩ := mod8 (isI64_of_wf hm)
  have bk : 1000 ≤ big := by unfold big; omega
  refine ⟨big + 300, ?_⟩
  unfold flywheellaw27_AllocFair.f
  rw [eg, Option.bind_some, w64 (by omega) (by omega)]
  obtain ⟨n, hn⟩ : ∃ n : Nat, (n : Int) = 1 + g := ⟨(1 + g).toNat, by omega⟩
  rw [← hn]
  have n1 : 1 ≤ n := by omega
  have n8 : n ≤ 8 := by omega
  have walk : ∀ (res : List Int), res.length = n → (∀ j : Nat, j < n → 0 ≤ rd res j ∧ rd res j ≤ 17179869184) → (∀ j : Nat, j < n → rd res j ≤ rd res (0 : Nat) ∧ rd res (0 : Nat) - rd res j < n) → (∀ j : Nat, j + 1 < n → rd res ((j + 1 : Nat) : Int) ≤ rd res j) →
      ∀ (m i k : Nat), i + m = n → m + 100 ≤ k → flywheellaw27_AllocFair.l1 k n res i = some true := by
    intro res rl rb rf rn m
    induction m with
    | zero =>
      intro i k hi hk
      obtain ⟨k, rfl⟩ : ∃ j, k = j + 1 := ⟨k - 1, by omega⟩
      rw [flywheellaw27_AllocFair.l1, if_neg (by omega)]
      exact awake27 _ (by omega)
    | succ m ih =>
      intro i k hi hk
      obtain ⟨k, rfl⟩ : ∃ j, k = j + 1 := ⟨k - 1, by omega⟩
      have f := rf i (by omega)
      have b0 := rb 0 (by omega)
      have bi := rb i (by omega)
      have z : rd res 0 = rd res (0 : Nat) := rfl
      have go := ih (i + 1) k (by omega) (by omega)
      rw [flywheellaw27_AllocFair.l1, if_pos (by omega), if_pos (by omega), if_pos (by omega), if_pos (by omega), z, if_neg (by omega), w64 (a := rd res (0 : Nat) - rd res i) (by omega) (by omega), if_neg (by omega), w_next (n := 110) (by omega) (by omega)]
      by_cases c : (i : Int) > 0
      · obtain ⟨j, rfl⟩ : ∃ j, i = j + 1 := ⟨i - 1, by omega⟩
        have dn := rn j (by omega)
        have e : wrap64 (((j + 1 : Nat) : Int) - 1) = (j : Int) := by rw [w64 (by omega) (by omega)]; omega
        rw [if_pos c, e, if_pos (by omega), if_pos (by omega), if_neg (by omega)]
        exact go
      · rw [if_neg c]; exact go
  have fill : ∀ (m i k : Nat), i + m = n → big + m + 200 ≤ k → flywheellaw27_AllocFair.l0 k T n (List.replicate i (⟨w, lo', hi'⟩ : S31)) i w lo' hi' = some true := by
    intro m
    induction m with
    | zero =>
      intro i k hi hk
      obtain ⟨k, rfl⟩ : ∃ j, k = j + 1 := ⟨k - 1, by omega⟩
      obtain rfl : i = n := by omega
      rw [flywheellaw27_AllocFair.l0, if_neg (by omega), rgood_eq _ _ (by omega), Option.bind_some]
      by_cases h : Ok27 (List.replicate i (⟨w, lo', hi'⟩ : S31))
      · rw [decide_eq_true h, if_pos rfl]
        have hh := h.2 0 (by rw [List.length_replicate]; omega)
        have l0 : lo (List.replicate i (⟨w, lo', hi'⟩ : S31)) 0 = lo' := by show (rd_T31 _ _).f1 = _; rw [rp_rd (by omega)]
        have u0 : up (List.replicate i (⟨w, lo', hi'⟩ : S31)) 0 = hi' := by show (rd_T31 _ _).f2 = _; rw [rp_rd (by omega)]
        rw [l0, u0] at hh
        have p0 : 0 ≤ lo' * i := Int.mul_nonneg (by omega) (by omega)
        have p1 : lo' * i ≤ lo' * 8 := Int.mul_le_mul_of_nonneg_left (by omega) (by omega)
        by_cases c : lo' * i ≤ cT T
        · obtain ⟨res, rl, rb, rf, rn, e⟩ := split_fair h T c
          rw [e _ (by omega), Option.bind_some, if_pos (by rw [rl]), cT_mx, w64 (a := lo' * i) (by omega) (by omega), if_neg (by omega)]
          exact walk res rl rb rf rn i 0 k (by omega) (by omega)
        · obtain ⟨res, r0, _, e, _⟩ := splits (List.replicate i (⟨w, lo', hi'⟩ : S31)) T
          have rl := (r0 h).1
          rw [List.length_replicate] at rl
          rw [e _ (by omega), Option.bind_some, if_pos (by rw [rl]), cT_mx, w64 (a := lo' * i) (by omega) (by omega), if_pos (by omega)]
          exact awake27 _ (by omega)
      · rw [decide_eq_false h, if_neg (by decide)]
        unfold alloc_Split.nilres.f
        rw [good_eq _ _ (by omega), decide_eq_false h, Option.bind_some, if_neg (by decide), Option.bind_some]
        exact awake27 _ (by omega)
    | succ m ih =>
      intro i k hi hk
      obtain ⟨k, rfl⟩ : ∃ j, k = j + 1 := ⟨k - 1, by omega⟩
      have go := ih (i + 1) k (by omega) (by omega)
      rw [List.replicate_succ'] at go
      rw [flywheellaw27_AllocFair.l0, if_pos (by omega), if_pos (by rw [List.length_replicate]; omega), w_next (n := 110) (by omega) (by omega)]
      exact go
  exact fill n 0 (big + 300) (by omega) (by omega)
end Go.Proofs.Ytlgfnclgkhfhpaa.Pure
end

section

end

-- PUT TOGETHER by a program of this session: of the claim's texts, what is used
import Derived.Test.YtlgfnclgkhfhpaaKAllocSums7
import Derived.Test.YtlgfnclgkhfhpaaKAllocSums8
import Derived.WalkArith
import Derived.KernelRfl
section
namespace Go.Proofs.Ytlgfnclgkhfhpaa.P
open Go.RowKit
set_option linter.unusedVariables false
set_option linter.unusedSimpArgs false
def md (a b c how : Int) : Int := (mdq a b c how).1
theorem wrap64_id {a : Int} (h : isI64 a) : wrap64 a = a := by unfold isI64 at h; unfold wrap64; omega
theorem isI64_mk {a : Int} (h : -9223372036854775808 ≤ a) (h' : a ≤ 9223372036854775807) : isI64 a := ⟨h, h'⟩
theorem hold64_id (q : Int) (h : isI64 q) : hold64 q = (q, true) := by
  unfold isI64 at h; unfold hold64
  rw [if_neg (by omega), if_neg (by omega)]
theorem do_eq {a b c : Int} (how : Int) (ha : isI64 a) (hb : isI64 b) (hc : isI64 c) : muldiv_Do.f a b c how = some (md a b c how) := by
  unfold muldiv_Do.f muldiv_quotient_s.f
  rw [if_pos ⟨ha, hb, hc⟩]; rfl
theorem md_pos {a b c how : Int} (hc : 0 < c) (h1 : 1 ≤ how) (h3 : how ≤ 3) : md a b c how = (hold64 (rnd (a * b) c how)).1 := by
  unfold md mdq
  rw [if_neg (by omega), if_neg (by omega)]
theorem rnd_down (n d : Int) : rnd n d 1 = n / d := by unfold rnd; rw [if_pos rfl]
theorem md_down {a b c : Int} (hc : 0 < c) (h : isI64 (a * b / c)) : md a b c 1 = a * b / c := by
  rw [md_pos hc (by decide) (by decide), rnd_down, hold64_id _ h]
end Go.Proofs.Ytlgfnclgkhfhpaa.P
end

section
namespace Go.Proofs.Ytlgfnclgkhfhpaa.P
open Go.RowKit
set_option linter.unusedVariables false
set_option linter.unusedSimpArgs false
def hd (x : Int) : Int := (hold64 x).1
end Go.Proofs.Ytlgfnclgkhfhpaa.P
end

section
namespace Go.Proofs.Ytlgfnclgkhfhpaa.P
open Go.RowKit Go.Proofs.YtlgfnclgkhfhpaaW.PrintWords Go.Proofs.YtlgfnclgkhfhpaaW.PrintLast Go.Proofs.YtlgfnclgkhfhpaaW.PrintMore
set_option linter.unusedVariables false
set_option linter.unusedSimpArgs false
abbrev wt (l : List S31) (i : Nat) : Int := (rd_T31 l i).f0
abbrev lo (l : List S31) (i : Nat) : Int := (rd_T31 l i).f1
abbrev up (l : List S31) (i : Nat) : Int := (rd_T31 l i).f2
def Ok27 (l : List S31) : Prop := l.length ≤ 8 ∧ ∀ i : Nat, i < l.length → 1 ≤ wt l i ∧ wt l i ≤ 1000 ∧ 0 ≤ lo l i ∧ lo l i ≤ up l i ∧ up l i ≤ 17179869184
instance (l : List S31) : Decidable (Ok27 l) := by unfold Ok27; infer_instance
theorem w_next {i n : Nat} (h : i ≤ n) (hn : n ≤ 200) : wrap64 ((i : Int) + 1) = ((i + 1 : Nat) : Int) := by rw [wrap64_id (isI64_mk (by omega) (by omega))]; omega
def bad (l : List S31) (i : Nat) : Prop := wt l i < 1 ∨ wt l i > 1000 ∨ lo l i < 0 ∨ up l i < lo l i ∨ up l i > 17179869184
instance (l : List S31) (i : Nat) : Decidable (bad l i) := by unfold bad; infer_instance
theorem ok27_iff (l : List S31) (h : l.length ≤ 8) : Ok27 l ↔ ∀ i : Nat, i < l.length → ¬ bad l i := by
  constructor
  · intro hh i hi hb
    have := hh.2 i hi
    unfold bad at hb; omega
  · intro hh
    refine ⟨h, fun i hi => ?_⟩
    have := hh i hi
    unfold bad at this; omega
theorem good_loop (l : List S31) (h : l.length ≤ 8) : ∀ (m i k : Nat), i + m = l.length → m + 1 ≤ k → (∀ j : Nat, j < i → ¬ bad l j) → alloc_Good.l0 k l (l.length : Int) i = some (decide (Ok27 l)) := by
  intro m
  induction m with
  | zero =>
    intro i k hi hk hj
    obtain ⟨k, rfl⟩ : ∃ j, k = j + 1 := ⟨k - 1, by omega⟩
    simp only [alloc_Good.l0]
    rw [if_neg (by omega), decide_eq_true ((ok27_iff l h).2 fun j hjl => hj j (by omega))]
  | succ m ih =>
    intro i k hi hk hj
    obtain ⟨k, rfl⟩ : ∃ j, k = j + 1 := ⟨k - 1, by omega⟩
    simp only [alloc_Good.l0]
    rw [if_pos (by omega), if_pos (by omega), if_pos (by omega)]
    by_cases hb : bad l i
    · have no : decide (Ok27 l) = false := decide_eq_false fun hh => (ok27_iff l h).1 hh i (by omega) hb
      rw [no]
      unfold bad wt lo up at hb
      repeat' split
      all_goals first | rfl | omega
    · have hb' := hb
      unfold bad wt lo up at hb'
      rw [if_neg (by omega), if_neg (by omega), if_neg (by omega), if_neg (by omega), if_neg (by omega), w_next (n := 10) (by omega) (by omega)]
      exact ih (i + 1) k (by omega) (by omega) fun j hjl => by
        by_cases e : j = i
        · rw [e]; exact hb
        · exact hj j (by omega)
theorem good_eq (l : List S31) (k : Nat) (hk : 10 ≤ k) : alloc_Good.f k l = some (decide (Ok27 l)) := by
  unfold alloc_Good.f
  by_cases h : (l.length : Int) > 8
  · rw [if_pos h, decide_eq_false (fun hh => by have := hh.1; omega)]
  · rw [if_neg h]
    exact good_loop l (by omega) l.length 0 k (by omega) (by omega) (fun j hj => by omega)
theorem rgood_loop (l : List S31) (h : l.length ≤ 8) : ∀ (m i k : Nat), i + m = l.length → m + 1 ≤ k → (∀ j : Nat, j < i → ¬ bad l j) → flywheelref27_Good.l0 k l i = some (decide (Ok27 l)) := by
  intro m
  induction m with
  | zero =>
    intro i k hi hk hj
    obtain ⟨k, rfl⟩ : ∃ j, k = j + 1 := ⟨k - 1, by omega⟩
    simp only [flywheelref27_Good.l0]
    rw [if_neg (by omega), decide_eq_true ((ok27_iff l h).2 fun j hjl => hj j (by omega))]
  | succ m ih =>
    intro i k hi hk hj
    obtain ⟨k, rfl⟩ : ∃ j, k = j + 1 := ⟨k - 1, by omega⟩
    simp only [flywheelref27_Good.l0]
    rw [if_pos (by omega), if_pos (by omega)]
    by_cases hb : bad l i
    · have no : decide (Ok27 l) = false := decide_eq_false fun hh => (ok27_iff l h).1 hh i (by omega) hb
      rw [no]
      unfold bad wt lo up at hb
      repeat' split
      all_goals first | rfl | omega
    · have hb' := hb
      unfold bad wt lo up at hb'
      rw [if_neg (by omega), if_neg (by omega), if_neg (by omega), if_neg (by omega), if_neg (by omega), w_next (n := 10) (by omega) (by omega)]
      exact ih (i + 1) k (by omega) (by omega) fun j hjl => by
        by_cases e : j = i
        · rw [e]; exact hb
        · exact hj j (by omega)
theorem rgood_eq (l : List S31) (k : Nat) (hk : 10 ≤ k) : flywheelref27_Good.f k l = some (decide (Ok27 l)) := by
  unfold flywheelref27_Good.f
  by_cases h : (l.length : Int) > 8
  · rw [if_pos h, decide_eq_false (fun hh => by have := hh.1; omega)]
  · rw [if_neg h]
    exact rgood_loop l (by omega) l.length 0 k (by omega) (by omega) (fun j hj => by omega)
def need (l : List S31) (o : List Int) (i : Nat) : Prop := rd o i < up l i
instance (l : List S31) (o : List Int) (i : Nat) : Decidable (need l o i) := by unfold need; infer_instance
def ws (l : List S31) (o : List Int) : Nat → Int
  | 0 => 0
  | i + 1 => ws l o i + (if need l o i then wt l i else 0)
def fs (l : List S31) (o : List Int) : Nat → Int
  | 0 => -1
  | i + 1 => if need l o i then (if fs l o i < 0 then i else fs l o i) else fs l o i
def gv (l : List S31) (o : List Int) (left W : Int) : Nat → List Int × Int
  | 0 => (o, 0)
  | i + 1 => let p := gv l o left W i
    if need l p.1 i then (p.1.set i (rd p.1 i + mn (left * wt l i / W) (up l i - rd p.1 i)), p.2 + mn (left * wt l i / W) (up l i - rd p.1 i)) else p
def rnd27 (l : List S31) (o : List Int) (left : Int) : Int × Bool × List Int :=
  if fs l o l.length < 0 ∨ left = 0 then (0, false, o)
  else let p := gv l o left (ws l o l.length) l.length
    if p.2 = 0 then (1, true, p.1.set (fs l o l.length).toNat (rd p.1 (fs l o l.length) + 1)) else (p.2, true, p.1)
def InO (l : List S31) (o : List Int) : Prop := o.length = l.length ∧ ∀ i : Nat, i < l.length → 0 ≤ rd o i ∧ rd o i ≤ up l i
theorem ws_span {l : List S31} (h : Ok27 l) (o : List Int) : ∀ i : Nat, i ≤ l.length → 0 ≤ ws l o i ∧ ws l o i ≤ 1000 * i := by
  intro i
  induction i with
  | zero => intro _; simp [ws]
  | succ i ih =>
    intro hi
    have := ih (by omega)
    have w := h.2 i (by omega)
    simp only [ws]
    split <;> omega
theorem fs_span (l : List S31) (o : List Int) : ∀ i : Nat, -1 ≤ fs l o i ∧ fs l o i < i := by
  intro i
  induction i with
  | zero => simp [fs]
  | succ i ih =>
    simp only [fs]
    split
    · split <;> omega
    · omega
theorem fs_none (l : List S31) (o : List Int) : ∀ i : Nat, fs l o i < 0 → ∀ j : Nat, j < i → ¬ need l o j := by
  intro i
  induction i with
  | zero => intro _ j hj; omega
  | succ i ih =>
    intro h j hj
    simp only [fs] at h
    by_cases hn : need l o i
    · rw [if_pos hn] at h
      by_cases h2 : fs l o i < 0
      · rw [if_pos h2] at h; omega
      · rw [if_neg h2] at h; exact absurd h h2
    · rw [if_neg hn] at h
      by_cases e : j = i
      · rw [e]; exact hn
      · exact ih h j (by omega)
theorem fs_need (l : List S31) (o : List Int) : ∀ i : Nat, 0 ≤ fs l o i → need l o (fs l o i).toNat ∧ ∀ j : Nat, (j : Int) < fs l o i → ¬ need l o j := by
  intro i
  induction i with
  | zero => intro h; simp only [fs] at h; omega
  | succ i ih =>
    intro h
    simp only [fs] at h ⊢
    by_cases hn : need l o i
    · rw [if_pos hn] at h ⊢
      by_cases h2 : fs l o i < 0
      · rw [if_pos h2] at h ⊢
        refine ⟨by simpa using hn, fun j hj => fs_none l o i h2 j (by omega)⟩
      · rw [if_neg h2] at h ⊢; exact ih (by omega)
    · rw [if_neg hn] at h ⊢; exact ih h
theorem ws_pos {l : List S31} (h : Ok27 l) (o : List Int) : ∀ i : Nat, i ≤ l.length → ∀ j : Nat, j < i → need l o j → wt l j ≤ ws l o i := by
  intro i
  induction i with
  | zero => intro _ j hj; omega
  | succ i ih =>
    intro hi j hj hn
    have w := h.2 i (by omega)
    simp only [ws]
    by_cases e : j = i
    · rw [e] at hn ⊢
      rw [if_pos hn]; have := (ws_span h o i (by omega)).1; omega
    · have := ih (by omega) j (by omega) hn
      split <;> omega
theorem rd_set {o : List Int} {i : Nat} (hi : i < o.length) (v : Int) (j : Nat) : rd (o.set i v) j = if j = i then v else rd o j := by
  unfold rd
  simp only [Int.toNat_natCast, List.getD_eq_getElem?_getD, List.getElem?_set]
  by_cases e : i = j
  · subst e; simp [hi]
  · rw [if_neg e, if_neg (fun h => e h.symm)]
theorem part_span {l : List S31} (h : Ok27 l) {o : List Int} (ho : InO l o) {left : Int} (h0 : 0 ≤ left) (h1 : left ≤ 17179869184) {W : Int} {i : Nat} (hi : i < l.length) (hW : wt l i ≤ W) :
    0 ≤ left * wt l i / W ∧ left * wt l i / W ≤ left := by
  have w := h.2 i hi
  have hp : 0 ≤ left * wt l i := Int.mul_nonneg h0 (by omega)
  refine ⟨Int.ediv_nonneg hp (by omega), ?_⟩
  have : left * wt l i ≤ left * W := Int.mul_le_mul_of_nonneg_left hW h0
  exact Int.ediv_le_of_le_mul (by omega) this
theorem need_of_gv {l : List S31} {o : List Int} {left W : Int} : ∀ i : Nat, i ≤ o.length → ∀ j : Nat, i ≤ j → rd (gv l o left W i).1 j = rd o j ∧ (gv l o left W i).1.length = o.length := by
  intro i
  induction i with
  | zero => intro _ j _; exact ⟨rfl, rfl⟩
  | succ i ih =>
    intro hi j hj
    obtain ⟨e1, e2⟩ := ih (by omega) j (by omega)
    simp only [gv]
    split
    · refine ⟨?_, by simp only [List.length_set]; exact e2⟩
      rw [rd_set (by rw [e2]; omega), if_neg (by omega)]; exact e1
    · exact ⟨e1, e2⟩
theorem gv_ok {l : List S31} (h : Ok27 l) {o : List Int} (ho : InO l o) {left : Int} (h0 : 0 ≤ left) (h1 : left ≤ 17179869184) :
    ∀ i : Nat, i ≤ l.length → InO l (gv l o left (ws l o l.length) i).1 ∧ 0 ≤ (gv l o left (ws l o l.length) i).2 ∧ (gv l o left (ws l o l.length) i).2 ≤ 17179869184 * i ∧ ((gv l o left (ws l o l.length) i).2 = 0 → (gv l o left (ws l o l.length) i).1 = o) := by
  intro i
  induction i with
  | zero => intro _; exact ⟨ho, by simp [gv], by simp [gv], fun _ => rfl⟩
  | succ i ih =>
    intro hi
    obtain ⟨g1, g2, g3, g4⟩ := ih (by omega)
    have same := (need_of_gv (l := l) (o := o) (left := left) (W := ws l o l.length) i (by rw [ho.1]; omega) i (Nat.le_refl _)).1
    simp only [gv]
    generalize gv l o left (ws l o l.length) i = p at g1 g2 g3 g4 same ⊢
    by_cases hn : need l p.1 i
    · rw [if_pos hn]
      have hn' := hn
      unfold need at hn'
      have no : need l o i := by unfold need; rw [← same]; exact hn'
      have sp := part_span h ho h0 h1 (i := i) (by omega) (ws_pos h o l.length (Nat.le_refl _) i (by omega) no)
      have r := g1.2 i (by omega)
      generalize left * wt l i / ws l o l.length = q at sp ⊢
      have m0 : 0 ≤ mn q (up l i - rd p.1 i) ∧ mn q (up l i - rd p.1 i) ≤ q ∧ mn q (up l i - rd p.1 i) ≤ up l i - rd p.1 i := by unfold mn; split <;> omega
      generalize mn q (up l i - rd p.1 i) = n at m0 ⊢
      refine ⟨⟨by simp only [List.length_set]; exact g1.1, fun j hj => ?_⟩, by simp only []; omega, by simp only []; omega, fun hz => ?_⟩
      · rw [rd_set (by rw [g1.1]; omega)]
        by_cases e : j = i
        · rw [if_pos e, e]; omega
        · rw [if_neg e]; exact g1.2 j hj
      · simp only [] at hz ⊢
        have n0 : n = 0 := by omega
        rw [n0, Int.add_zero, g4 (by omega)]
        unfold rd
        simp only [Int.toNat_natCast]
        have hi' : i < o.length := by rw [ho.1]; omega
        rw [List.getD_eq_getElem?_getD, List.getElem?_eq_getElem hi', Option.getD_some]
        exact List.set_getElem_self hi'
    · rw [if_neg hn]
      exact ⟨g1, g2, by omega, g4⟩
end Go.Proofs.Ytlgfnclgkhfhpaa.P
end

section
namespace Go.Proofs.Ytlgfnclgkhfhpaa.P
open Go.RowKit Go.Proofs.YtlgfnclgkhfhpaaW.PrintWords Go.Proofs.YtlgfnclgkhfhpaaW.PrintLast Go.Proofs.YtlgfnclgkhfhpaaW.PrintMore
set_option linter.unusedVariables false
set_option linter.unusedSimpArgs false
theorem gv_do {l : List S31} (h : Ok27 l) {o : List Int} (ho : InO l o) {left : Int} (h0 : 0 ≤ left) (h1 : left ≤ 17179869184) {i : Nat} (hi : i < l.length) (hn : need l (gv l o left (ws l o l.length) i).1 i) :
    isI64 (wt l i) ∧ isI64 (ws l o l.length) ∧ 0 < ws l o l.length ∧ 0 ≤ left * wt l i / ws l o l.length ∧ left * wt l i / ws l o l.length ≤ left := by
  have same := (need_of_gv (l := l) (o := o) (left := left) (W := ws l o l.length) i (by rw [ho.1]; omega) i (Nat.le_refl _)).1
  have no : need l o i := by unfold need at hn ⊢; rw [← same]; exact hn
  have wp := ws_pos h o l.length (Nat.le_refl _) i hi no
  have w := h.2 i hi
  have w2 := ws_span h o l.length (Nat.le_refl _)
  have l8 := h.1
  have sp := part_span h ho h0 h1 hi wp
  exact ⟨isI64_mk (by omega) (by omega), isI64_mk (by omega) (by omega), by omega, sp.1, sp.2⟩
theorem give_loop {l : List S31} (h : Ok27 l) {o : List Int} (ho : InO l o) {left : Int} (h0 : 0 < left) (h1 : left ≤ 17179869184) (hf : 0 ≤ fs l o l.length) :
    ∀ (m i k : Nat), i + m = l.length → m + 1 ≤ k → alloc_round.l1 k left (gv l o left (ws l o l.length) i).1 (ws l o l.length) (fs l o l.length) (gv l o left (ws l o l.length) i).2 l (l.length : Int) i = some (rnd27 l o left) := by
  intro m
  induction m with
  | zero =>
    intro i k hi hk
    obtain ⟨k, rfl⟩ : ∃ j, k = j + 1 := ⟨k - 1, by omega⟩
    have e : i = l.length := by omega
    subst e
    simp only [alloc_round.l1]
    rw [if_neg (by omega)]
    unfold rnd27
    rw [if_neg (show ¬ (fs l o l.length < 0 ∨ left = 0) by omega)]
    obtain ⟨g1, g2, g3, g4⟩ := gv_ok h ho (by omega) h1 l.length (Nat.le_refl _)
    have fsp := fs_span l o l.length
    simp only []
    generalize gv l o left (ws l o l.length) l.length = p at g1 g2 g3 g4 ⊢
    by_cases c : p.2 = 0
    · rw [if_pos c, if_pos c, if_pos hf, if_pos (by rw [g1.1]; omega)]
      have := g1.2 (fs l o l.length).toNat (by omega)
      rw [show ((fs l o l.length).toNat : Int) = fs l o l.length by omega] at this
      have hu := (h.2 (fs l o l.length).toNat (by omega)).2.2.2.2
      unfold up at this
      unfold up at hu
      rw [wrap64_id (isI64_mk (by omega) (by omega))]
    · rw [if_neg c, if_neg c]
  | succ m ih =>
    intro i k hi hk
    obtain ⟨k, rfl⟩ : ∃ j, k = j + 1 := ⟨k - 1, by omega⟩
    have step := ih (i + 1) k (by omega) (by omega)
    obtain ⟨g1, g2, g3, g4⟩ := gv_ok h ho (by omega) h1 i (by omega)
    simp only [alloc_round.l1]
    rw [if_pos (by omega), if_pos (by omega), if_pos (by omega), if_pos (by rw [g1.1]; omega)]
    have r := g1.2 i (by omega)
    have hw := h.2 i (by omega)
    have l8 := h.1
    simp only [gv] at step
    rw [w_next (n := 10) (by omega) (by omega)]
    by_cases hn : need l (gv l o left (ws l o l.length) i).1 i
    · obtain ⟨e1, e2, e3, e4, e5⟩ := gv_do h ho (by omega) h1 (by omega) hn
      rw [if_pos hn] at step
      have hn' := hn
      unfold need at hn'
      unfold up at r hw hn' step
      unfold wt at e1 e4 e5 hw step
      rw [wrap64_id (a := (rd_T31 l (i : Int)).f2 - rd (gv l o left (ws l o l.length) i).1 i) (isI64_mk (by omega) (by omega)), if_pos (by omega), do_eq 1 (isI64_mk (by omega) (by omega)) e1 e2, md_down e3 (isI64_mk (by omega) (by omega))]
      simp only [Option.bind_some]
      generalize left * (rd_T31 l (i : Int)).f0 / ws l o l.length = q at e4 e5 step ⊢
      have m0 : 0 ≤ mn q ((rd_T31 l (i : Int)).f2 - rd (gv l o left (ws l o l.length) i).1 i) ∧ mn q ((rd_T31 l (i : Int)).f2 - rd (gv l o left (ws l o l.length) i).1 i) ≤ q := by unfold mn; split <;> omega
      generalize mn q ((rd_T31 l (i : Int)).f2 - rd (gv l o left (ws l o l.length) i).1 i) = n at m0 step ⊢
      rw [wrap64_id (a := rd (gv l o left (ws l o l.length) i).1 i + n) (isI64_mk (by omega) (by omega)), wrap64_id (a := (gv l o left (ws l o l.length) i).2 + n) (isI64_mk (by omega) (by omega))]
      simpa using step
    · rw [if_neg hn] at step
      have hn' := hn
      unfold need at hn'
      unfold up at r hw hn'
      rw [wrap64_id (a := (rd_T31 l (i : Int)).f2 - rd (gv l o left (ws l o l.length) i).1 i) (isI64_mk (by omega) (by omega)), if_neg (by omega)]
      exact step
theorem round_loop {l : List S31} (h : Ok27 l) {o : List Int} (ho : InO l o) {left : Int} (h0 : 0 ≤ left) (h1 : left ≤ 17179869184) :
    ∀ (m i k : Nat), i + m = l.length → m + 20 ≤ k → alloc_round.l0 k left l o (ws l o i) (fs l o i) l (l.length : Int) i = some (rnd27 l o left) := by
  intro m
  induction m with
  | zero =>
    intro i k hi hk
    obtain ⟨k, rfl⟩ : ∃ j, k = j + 2 := ⟨k - 2, by omega⟩
    have e : i = l.length := by omega
    subst e
    have l8 := h.1
    simp only [alloc_round.l0]
    rw [if_neg (by omega)]
    by_cases c : fs l o l.length < 0
    · rw [if_pos c]
      simp only [alloc_round.j1, if_true]
      unfold rnd27
      rw [if_pos (show fs l o l.length < 0 ∨ left = 0 from .inl c)]
    · rw [if_neg c]
      by_cases c2 : left = 0
      · subst c2
        simp only [alloc_round.j1]
        unfold rnd27
        rw [if_pos (show ((0 : Int) == 0) = true by decide), if_pos (show fs l o l.length < 0 ∨ (0 : Int) = 0 from .inr rfl)]
      · have e0 : (left == 0) = false := beq_eq_false_iff_ne.mpr c2
        rw [e0]
        simp only [alloc_round.j1, Bool.false_eq_true, if_false]
        exact give_loop h ho (by omega) h1 (by omega) l.length 0 k (by omega) (by omega)
  | succ m ih =>
    intro i k hi hk
    obtain ⟨k, rfl⟩ : ∃ j, k = j + 1 := ⟨k - 1, by omega⟩
    have step := ih (i + 1) k (by omega) (by omega)
    have hw := h.2 i (by omega)
    have l8 := h.1
    have w2 := ws_span h o i (by omega)
    simp only [alloc_round.l0]
    rw [if_pos (by omega), if_pos (by omega), if_pos (by omega), if_pos (by rw [ho.1]; omega), w_next (n := 10) (by omega) (by omega)]
    simp only [ws, fs] at step
    by_cases hn : need l o i
    · rw [if_pos hn, if_pos hn] at step
      unfold need up at hn
      unfold wt at hw step
      rw [if_pos hn, wrap64_id (isI64_mk (by omega) (by omega))]
      by_cases c : fs l o i < 0
      · rw [if_pos c] at step ⊢; exact step
      · rw [if_neg c] at step ⊢; exact step
    · rw [if_neg hn, if_neg hn, Int.add_zero] at step
      unfold need up at hn
      rw [if_neg hn]; exact step
theorem round_eq {l : List S31} (h : Ok27 l) {o : List Int} (ho : InO l o) {left : Int} (h0 : 0 ≤ left) (h1 : left ≤ 17179869184) (k : Nat) (hk : 30 ≤ k) : alloc_round.f k left l o = some (rnd27 l o left) := by
  unfold alloc_round.f
  have l8 := h.1
  exact round_loop h ho h0 h1 l.length 0 k (by omega) (by omega)
theorem rnd27_ok {l : List S31} (h : Ok27 l) {o : List Int} (ho : InO l o) {left : Int} (h0 : 0 < left) (h1 : left ≤ 17179869184) (hf : 0 ≤ fs l o l.length) :
    1 ≤ (rnd27 l o left).1 ∧ (rnd27 l o left).1 ≤ 274877906944 ∧ (rnd27 l o left).2.1 = true ∧ InO l (rnd27 l o left).2.2 := by
  have l8 := h.1
  obtain ⟨g1, g2, g3, g4⟩ := gv_ok h ho (by omega) h1 l.length (Nat.le_refl _)
  have fsp := fs_span l o l.length
  have fn := (fs_need l o l.length hf).1
  unfold rnd27
  rw [if_neg (show ¬ (fs l o l.length < 0 ∨ left = 0) by omega)]
  simp only []
  generalize gv l o left (ws l o l.length) l.length = p at g1 g2 g3 g4 ⊢
  by_cases c : p.2 = 0
  · rw [if_pos c]
    refine ⟨by simp only []; omega, by simp only []; omega, rfl, ?_⟩
    have e := g4 c
    simp only []
    rw [e]
    refine ⟨by simp only [List.length_set]; exact ho.1, fun j hj => ?_⟩
    rw [rd_set (by rw [ho.1]; omega)]
    have hr := ho.2 (fs l o l.length).toNat (by omega)
    unfold need at fn
    rw [show ((fs l o l.length).toNat : Int) = fs l o l.length by omega] at hr fn
    by_cases e2 : j = (fs l o l.length).toNat
    · rw [if_pos e2, e2]
      exact ⟨by omega, by omega⟩
    · rw [if_neg e2]; exact ho.2 j hj
  · rw [if_neg c]
    exact ⟨by simp only []; omega, by simp only []; omega, rfl, g1⟩
end Go.Proofs.Ytlgfnclgkhfhpaa.P
end

section
namespace Go.Proofs.Ytlgfnclgkhfhpaa.P
open Go.RowKit Go.Proofs.YtlgfnclgkhfhpaaW.PrintWords Go.Proofs.YtlgfnclgkhfhpaaW.PrintLast Go.Proofs.YtlgfnclgkhfhpaaW.PrintMore
set_option linter.unusedVariables false
set_option linter.unusedSimpArgs false
def fill (l : List S31) (T : Int) : Nat → List Int × Int
  | 0 => ([], T)
  | i + 1 => ((fill l T i).1 ++ [mn (lo l i) (fill l T i).2], (fill l T i).2 - mn (lo l i) (fill l T i).2)
theorem fill_ok {l : List S31} (h : Ok27 l) {T : Int} (h0 : 0 ≤ T) (h1 : T ≤ 17179869184) : ∀ i : Nat, i ≤ l.length →
    (fill l T i).1.length = i ∧ 0 ≤ (fill l T i).2 ∧ (fill l T i).2 ≤ 17179869184 ∧ ∀ j : Nat, j < i → 0 ≤ rd (fill l T i).1 j ∧ rd (fill l T i).1 j ≤ up l j := by
  intro i
  induction i with
  | zero => intro _; exact ⟨rfl, h0, h1, fun j hj => by omega⟩
  | succ i ih =>
    intro hi
    obtain ⟨a, b, c, d⟩ := ih (by omega)
    have hw := h.2 i (by omega)
    simp only [fill]
    have m0 : 0 ≤ mn (lo l i) (fill l T i).2 ∧ mn (lo l i) (fill l T i).2 ≤ (fill l T i).2 ∧ mn (lo l i) (fill l T i).2 ≤ lo l i := by unfold mn; split <;> omega
    generalize mn (lo l i) (fill l T i).2 = n at m0 ⊢
    refine ⟨by simp [a], by omega, by omega, fun j hj => ?_⟩
    have hr : rd ((fill l T i).1 ++ [n]) j = if j = i then n else rd (fill l T i).1 j := by
      unfold rd
      simp only [Int.toNat_natCast, List.getD_eq_getElem?_getD]
      by_cases e : j = i
      · rw [if_pos e, e, List.getElem?_append_right (by omega), a]; simp
      · rw [if_neg e, List.getElem?_append_left (by omega)]
    rw [hr]
    by_cases e : j = i
    · rw [if_pos e, e]; omega
    · rw [if_neg e]; exact d j (by omega)
theorem fill_loop {l : List S31} (h : Ok27 l) {T : Int} (h0 : 0 ≤ T) (h1 : T ≤ 17179869184) (k : Nat) : ∀ (m i : Nat), i + m = l.length →
    alloc_Split.l0 (k + m + 1) l (fill l T i).2 (fill l T i).1 l (l.length : Int) i = alloc_Split.l1 k l (fill l T l.length).2 (fill l T l.length).1 := by
  intro m
  induction m with
  | zero =>
    intro i hi
    have e : i = l.length := by omega
    subst e
    simp only [alloc_Split.l0]
    rw [if_neg (by omega)]
  | succ m ih =>
    intro i hi
    have step := ih (i + 1) (by omega)
    have hw := h.2 i (by omega)
    have l8 := h.1
    obtain ⟨a, b, c, d⟩ := fill_ok h h0 h1 i (by omega)
    rw [show k + (m + 1) + 1 = (k + m + 1) + 1 by omega]
    generalize k + m + 1 = K at step ⊢
    simp only [alloc_Split.l0]
    rw [if_pos (by omega), if_pos (by omega), if_pos (by omega), if_pos (by omega), w_next (n := 10) (by omega) (by omega)]
    simp only [fill] at step
    unfold lo at step hw
    have m0 : 0 ≤ mn (rd_T31 l (i : Int)).f1 (fill l T i).2 ∧ mn (rd_T31 l (i : Int)).f1 (fill l T i).2 ≤ (fill l T i).2 := by unfold mn; split <;> omega
    rw [wrap64_id (isI64_mk (by omega) (by omega))]
    exact step
def big : Nat := 343597383780
theorem wakes27 : flywheellaw27_wakes.f 60 = some true := by kernel_rfl
theorem wakes27_ge (k : Nat) (h : 60 ≤ k) : flywheellaw27_wakes.f k = some true := by
  obtain ⟨d, rfl⟩ : ∃ d, k = 60 + d := ⟨k - 60, by omega⟩
  clear h
  induction d with
  | zero => exact wakes27
  | succ d ih => exact flywheellaw27_wakes.mono _ _ ih
theorem awake27 (k : Nat) (h : 60 ≤ k) : ((flywheellaw27_wakes.f k).bind fun t => some t) = some true := by rw [wakes27_ge k h]; rfl
end Go.Proofs.Ytlgfnclgkhfhpaa.P
namespace Go.Proofs.Ytlgfnclgkhfhpaa.Pure
open Go.RowKit Go.Proofs.Ytlgfnclgkhfhpaa.P Go.Proofs.YtlgfnclgkhfhpaaW.PrintWords Go.Proofs.YtlgfnclgkhfhpaaW.PrintLast Go.Proofs.YtlgfnclgkhfhpaaW.PrintMore
end Go.Proofs.Ytlgfnclgkhfhpaa.Pure
end

section
namespace Go.Proofs.Ytlgfnclgkhfhpaa.P
open Go.RowKit Go.Proofs.YtlgfnclgkhfhpaaW.PrintWords Go.Proofs.YtlgfnclgkhfhpaaW.PrintLast Go.Proofs.YtlgfnclgkhfhpaaW.PrintMore
set_option linter.unusedVariables false
set_option linter.unusedSimpArgs false
def shl27 (res : List Int) (p : Int) : Nat → List S67
  | 0 => []
  | i + 1 => shl27 res p i ++ [(⟨wrap64 (rd res i - md (rd res i) p 256 1), md (rd res i) p 256 1⟩ : S67)]
theorem shl27_len (res : List Int) (p : Int) : ∀ i : Nat, (shl27 res p i).length = i := by
  intro i
  induction i with
  | zero => rfl
  | succ i ih => simp [shl27, ih]
theorem share_loop {res : List Int} (hl : res.length ≤ 100) (hr : ∀ i : Nat, i < res.length → isI64 (rd res i)) {p x : Int} (hp : isI64 p) : ∀ (m i k : Nat), i + m = res.length → m + 1 ≤ k →
    alloc_Share.l0 k x p (shl27 res p i) res (res.length : Int) i = some (shl27 res p res.length, x) := by
  intro m
  induction m with
  | zero =>
    intro i k hi hk
    obtain ⟨k, rfl⟩ : ∃ j, k = j + 1 := ⟨k - 1, by omega⟩
    have e : i = res.length := by omega
    subst e
    simp only [alloc_Share.l0]
    rw [if_neg (by omega)]
  | succ m ih =>
    intro i k hi hk
    obtain ⟨k, rfl⟩ : ∃ j, k = j + 1 := ⟨k - 1, by omega⟩
    have step := ih (i + 1) k (by omega) (by omega)
    have ln := shl27_len res p i
    simp only [alloc_Share.l0]
    rw [if_pos (by omega), if_pos (by omega), if_pos (by omega), do_eq 1 (hr i (by omega)) hp (isI64_mk (by decide) (by decide)), w_next (n := 110) (by omega) (by omega)]
    simp only [Option.bind_some]
    rw [if_pos (by omega)]
    exact step
end Go.Proofs.Ytlgfnclgkhfhpaa.P
namespace Go.Proofs.Ytlgfnclgkhfhpaa.Pure
open Go.RowKit Go.Proofs.Ytlgfnclgkhfhpaa.P Go.Proofs.YtlgfnclgkhfhpaaW.PrintWords Go.Proofs.YtlgfnclgkhfhpaaW.PrintLast Go.Proofs.YtlgfnclgkhfhpaaW.PrintMore
end Go.Proofs.Ytlgfnclgkhfhpaa.Pure
end

section
namespace Go.Proofs.Ytlgfnclgkhfhpaa.P
open Go.RowKit Go.Proofs.YtlgfnclgkhfhpaaW.PrintWords Go.Proofs.YtlgfnclgkhfhpaaW.PrintLast Go.Proofs.YtlgfnclgkhfhpaaW.PrintMore
set_option linter.unusedVariables false
set_option linter.unusedSimpArgs false
def sm (o : List Int) : Nat → Int
  | 0 => 0
  | i + 1 => sm o i + rd o i
theorem sm_set {o : List Int} {j : Nat} (hj : j < o.length) (v : Int) : ∀ i : Nat, sm (o.set j v) i = sm o i + if j < i then v - rd o j else 0 := by
  intro i
  induction i with
  | zero => simp [sm]
  | succ i ih =>
    simp only [sm]
    rw [ih, rd_set hj]
    by_cases e : i = j
    · subst e; rw [if_neg (by omega), if_pos rfl, if_pos (by omega)]; omega
    · rw [if_neg e]
      by_cases c : j < i
      · rw [if_pos c, if_pos (by omega)]; omega
      · rw [if_neg c, if_neg (by omega)]; omega
theorem gv_sm {l : List S31} {o : List Int} {left W : Int} : ∀ i : Nat, i ≤ o.length → sm (gv l o left W i).1 o.length = sm o o.length + (gv l o left W i).2 := by
  intro i
  induction i with
  | zero => intro _; simp [gv]
  | succ i ih =>
    intro hi
    have e := ih (by omega)
    have ln := (need_of_gv (l := l) (o := o) (left := left) (W := W) i (by omega) i (Nat.le_refl _)).2
    simp only [gv]
    split
    · simp only []
      rw [sm_set (by rw [ln]; omega), if_pos (by omega), e]; omega
    · exact e
theorem gv_le {l : List S31} (h : Ok27 l) {o : List Int} (ho : InO l o) {left : Int} (h0 : 0 ≤ left) (h1 : left ≤ 17179869184) : ∀ i : Nat, i ≤ l.length →
    ws l o l.length * (gv l o left (ws l o l.length) i).2 ≤ left * ws l o i ∧ ∀ j : Nat, rd o j ≤ rd (gv l o left (ws l o l.length) i).1 j := by
  intro i
  induction i with
  | zero => intro _; exact ⟨by simp [gv, ws], fun j => by simp [gv]⟩
  | succ i ih =>
    intro hi
    obtain ⟨a, b⟩ := ih (by omega)
    obtain ⟨g1, g2, g3, g4⟩ := gv_ok h ho h0 h1 i (by omega)
    have same := (need_of_gv (l := l) (o := o) (left := left) (W := ws l o l.length) i (by rw [ho.1]; omega) i (Nat.le_refl _)).1
    simp only [gv, ws]
    generalize gv l o left (ws l o l.length) i = p at a b g1 g2 g3 g4 same ⊢
    by_cases hn : need l p.1 i
    · have hn' := hn
      unfold need at hn'
      have no : need l o i := by unfold need; rw [← same]; exact hn'
      have wp := ws_pos h o l.length (Nat.le_refl _) i (by omega) no
      have w1 := (h.2 i (by omega)).1
      have sp := part_span h ho h0 h1 (i := i) (by omega) wp
      rw [if_pos hn, if_pos no]
      have r := g1.2 i (by omega)
      have mul := Int.mul_ediv_self_le (x := left * wt l i) (k := ws l o l.length) (by omega)
      generalize left * wt l i / ws l o l.length = q at sp mul ⊢
      have m0 : 0 ≤ mn q (up l i - rd p.1 i) ∧ mn q (up l i - rd p.1 i) ≤ q ∧ mn q (up l i - rd p.1 i) ≤ up l i - rd p.1 i := by unfold mn; split <;> omega
      generalize mn q (up l i - rd p.1 i) = n at m0 ⊢
      have le := Int.mul_le_mul_of_nonneg_left m0.2.1 (show 0 ≤ ws l o l.length by omega)
      refine ⟨by simp only [Int.mul_add]; omega, fun j => ?_⟩
      simp only []
      rw [rd_set (by rw [g1.1]; omega)]
      have := b j
      by_cases e : j = i
      · rw [if_pos e, e] at *; omega
      · rw [if_neg e]; exact this
    · have hn' := hn
      unfold need at hn'
      have no : ¬ need l o i := by unfold need; rw [← same]; exact hn'
      rw [if_neg hn, if_neg no, Int.add_zero]
      exact ⟨a, b⟩
theorem rnd_more {l : List S31} (h : Ok27 l) {o : List Int} (ho : InO l o) {left : Int} (h0 : 0 < left) (h1 : left ≤ 17179869184) (hf : 0 ≤ fs l o l.length) :
    (rnd27 l o left).1 ≤ left ∧ sm (rnd27 l o left).2.2 l.length = sm o l.length + (rnd27 l o left).1 ∧ ∀ j : Nat, rd o j ≤ rd (rnd27 l o left).2.2 j := by
  obtain ⟨g1, g2, g3, g4⟩ := gv_ok h ho (by omega) h1 l.length (Nat.le_refl _)
  obtain ⟨a, b⟩ := gv_le h ho (by omega) h1 l.length (Nat.le_refl _)
  have s := gv_sm (l := l) (o := o) (left := left) (W := ws l o l.length) l.length (by rw [ho.1]; omega)
  rw [ho.1] at s
  have fsp := fs_span l o l.length
  have fn := (fs_need l o l.length hf).1
  have wp := ws_pos h o l.length (Nat.le_refl _) (fs l o l.length).toNat (by omega) fn
  have w1 := (h.2 (fs l o l.length).toNat (by omega)).1
  have gl : (gv l o left (ws l o l.length) l.length).2 ≤ left := by
    rw [Int.mul_comm left] at a
    exact Int.le_of_mul_le_mul_left a (by omega)
  unfold rnd27
  rw [if_neg (show ¬ (fs l o l.length < 0 ∨ left = 0) by omega)]
  simp only []
  generalize gv l o left (ws l o l.length) l.length = p at g1 g2 g3 g4 a b s gl ⊢
  by_cases c : p.2 = 0
  · rw [if_pos c]
    have e := g4 c
    simp only []
    rw [e]
    refine ⟨by omega, ?_, fun j => ?_⟩
    · rw [sm_set (by rw [ho.1]; omega), if_pos (by omega), show ((fs l o l.length).toNat : Int) = fs l o l.length by omega]; omega
    · rw [rd_set (by rw [ho.1]; omega)]
      split
      · rename_i ej; rw [ej, show ((fs l o l.length).toNat : Int) = fs l o l.length by omega]; omega
      · exact Int.le_refl _
  · rw [if_neg c]
    exact ⟨gl, s, b⟩
theorem rounds_inv {l : List S31} (h : Ok27 l) (Inv : List Int → Int → Prop)
    (step : ∀ o left, InO l o → 0 < left → left ≤ 17179869184 → 0 ≤ fs l o l.length → Inv o left → Inv (rnd27 l o left).2.2 (left - (rnd27 l o left).1)) :
    ∀ (d : Nat) (o : List Int) (left : Int), InO l o → 0 ≤ left → left ≤ 17179869184 → left.toNat ≤ d → Inv o left →
    ∃ res left', InO l res ∧ Inv res left' ∧ 0 ≤ left' ∧ (left' = 0 ∨ fs l res l.length < 0) ∧ ∀ k, 40 + d ≤ k → alloc_Split.l1 k l left o = some res := by
  intro d
  induction d with
  | zero =>
    intro o left ho h0 h1 hd hi
    have e : left = 0 := by omega
    subst e
    refine ⟨o, 0, ho, hi, by omega, Or.inl rfl, fun k hk => ?_⟩
    obtain ⟨k, rfl⟩ : ∃ j, k = j + 1 := ⟨k - 1, by omega⟩
    simp only [alloc_Split.l1]
    rw [round_eq h ho (by omega) (by omega) k (by omega)]
    unfold rnd27
    rw [if_pos (show fs l o l.length < 0 ∨ (0 : Int) = 0 from .inr rfl)]
    simp
  | succ d ih =>
    intro o left ho h0 h1 hd hi
    by_cases z : left = 0
    · obtain ⟨res, left', a, b, c, e, f⟩ := ih o left ho h0 h1 (by omega) hi
      exact ⟨res, left', a, b, c, e, fun k hk => f k (by omega)⟩
    by_cases f : fs l o l.length < 0
    · refine ⟨o, left, ho, hi, h0, Or.inr f, fun k hk => ?_⟩
      obtain ⟨k, rfl⟩ : ∃ j, k = j + 1 := ⟨k - 1, by omega⟩
      simp only [alloc_Split.l1]
      rw [round_eq h ho (by omega) (by omega) k (by omega)]
      unfold rnd27
      rw [if_pos (show fs l o l.length < 0 ∨ left = 0 from .inl f)]
      simp
    obtain ⟨r1, r2, r3, r4⟩ := rnd27_ok h ho (by omega) h1 (by omega)
    have m := rnd_more h ho (by omega) h1 (by omega)
    have hi' := step o left ho (by omega) h1 (by omega) hi
    by_cases g : left - (rnd27 l o left).1 > 0
    · obtain ⟨res, left', a, b, c, e, f'⟩ := ih (rnd27 l o left).2.2 (left - (rnd27 l o left).1) r4 (by omega) (by omega) (by omega) hi'
      refine ⟨res, left', a, b, c, e, fun k hk => ?_⟩
      obtain ⟨k, rfl⟩ : ∃ j, k = j + 1 := ⟨k - 1, by omega⟩
      simp only [alloc_Split.l1]
      rw [round_eq h ho (by omega) (by omega) k (by omega)]
      simp only [Option.bind_some]
      rw [if_pos r3, wrap64_id (isI64_mk (by omega) (by omega)), if_pos g]
      exact f' k (by omega)
    · refine ⟨(rnd27 l o left).2.2, left - (rnd27 l o left).1, r4, hi', by omega, Or.inl (by omega), fun k hk => ?_⟩
      obtain ⟨k, rfl⟩ : ∃ j, k = j + 1 := ⟨k - 1, by omega⟩
      simp only [alloc_Split.l1]
      rw [round_eq h ho (by omega) (by omega) k (by omega)]
      simp only [Option.bind_some]
      rw [if_pos r3, wrap64_id (isI64_mk (by omega) (by omega)), if_neg g]
def cT (T : Int) : Int := if T < 0 then 0 else if T > 17179869184 then 17179869184 else T
theorem cT_span (T : Int) : 0 ≤ cT T ∧ cT T ≤ 17179869184 := by unfold cT; repeat' split <;> omega
theorem splits_inv {l : List S31} (h : Ok27 l) (T : Int) (Inv : List Int → Int → Prop)
    (step : ∀ o left, InO l o → 0 < left → left ≤ 17179869184 → 0 ≤ fs l o l.length → Inv o left → Inv (rnd27 l o left).2.2 (left - (rnd27 l o left).1))
    (start : Inv (fill l (cT T) l.length).1 (fill l (cT T) l.length).2) :
    ∃ res left', InO l res ∧ Inv res left' ∧ 0 ≤ left' ∧ (left' = 0 ∨ fs l res l.length < 0) ∧ ∀ k, big ≤ k → alloc_Split.f k T l = some res := by
  have l8 := h.1
  have hT := cT_span T
  obtain ⟨a, b, c, d⟩ := fill_ok h hT.1 hT.2 l.length (Nat.le_refl _)
  obtain ⟨res, left', r1, r2, r3, r4, r5⟩ := rounds_inv h Inv step 17179869184 (fill l (cT T) l.length).1 (fill l (cT T) l.length).2 ⟨a, d⟩ b c (by omega) start
  refine ⟨res, left', r1, r2, r3, r4, fun k hk => ?_⟩
  unfold big at hk
  unfold alloc_Split.f
  rw [good_eq l k (by omega), decide_eq_true h]
  simp only [Option.bind_some, if_true]
  rw [clamp_eq, show (if T < 0 then 0 else if T > 17179869184 then 17179869184 else T) = cT T from rfl]
  simp only [Option.bind_some]
  obtain ⟨k, rfl⟩ : ∃ j, k = j + l.length + 1 := ⟨k - (l.length + 1), by omega⟩
  have := fill_loop h hT.1 hT.2 k l.length 0 (by omega)
  simp only [fill] at this
  exact this.trans (r5 k (by omega))
theorem rd_app {o : List Int} {n : Int} {i j : Nat} (a : o.length = i) (hj : j ≤ i) : rd (o ++ [n]) j = if j = i then n else rd o j := by
  unfold rd
  simp only [Int.toNat_natCast, List.getD_eq_getElem?_getD]
  by_cases e : j = i
  · rw [if_pos e, e, List.getElem?_append_right (by omega), a]; simp
  · rw [if_neg e, List.getElem?_append_left (by omega)]
theorem sm_app {o : List Int} {n : Int} {i : Nat} (a : o.length = i) : ∀ j : Nat, j ≤ i → sm (o ++ [n]) j = sm o j := by
  intro j
  induction j with
  | zero => intro _; rfl
  | succ j ih =>
    intro hj
    simp only [sm]
    rw [ih (by omega), rd_app a (by omega), if_neg (by omega)]
def so (l : List S31) : Nat → Int
  | 0 => 0
  | i + 1 => so l i + lo l i
def su (l : List S31) : Nat → Int
  | 0 => 0
  | i + 1 => su l i + up l i
theorem so_ge {l : List S31} (h : Ok27 l) : ∀ i : Nat, i ≤ l.length → 0 ≤ so l i ∧ so l i ≤ 17179869184 * i ∧ 0 ≤ su l i ∧ su l i ≤ 17179869184 * i := by
  intro i
  induction i with
  | zero => intro _; simp [so, su]
  | succ i ih =>
    intro hi
    have := ih (by omega)
    have w := h.2 i (by omega)
    simp only [so, su]
    omega
theorem so_le {l : List S31} (h : Ok27 l) (i n : Nat) (hn : n ≤ l.length) (hi : i ≤ n) : so l i ≤ so l n := by
  induction n with
  | zero => have : i = 0 := by omega
            subst this; exact Int.le_refl _
  | succ n ih =>
    by_cases e : i = n + 1
    · subst e; exact Int.le_refl _
    · have := ih (by omega) (by omega)
      have w := h.2 n (by omega)
      simp only [so]; omega
theorem fill_sum {l : List S31} (h : Ok27 l) {T : Int} (h0 : 0 ≤ T) (h1 : T ≤ 17179869184) : ∀ i : Nat, i ≤ l.length → sm (fill l T i).1 i + (fill l T i).2 = T := by
  intro i
  induction i with
  | zero => intro _; simp [sm, fill]
  | succ i ih =>
    intro hi
    have e := ih (by omega)
    have a := (fill_ok h h0 h1 i (by omega)).1
    simp only [fill, sm]
    rw [sm_app a i (Nat.le_refl _), rd_app a (Nat.le_refl _), if_pos rfl]
    omega
theorem fill_least {l : List S31} (h : Ok27 l) {T : Int} (h0 : 0 ≤ T) (h1 : T ≤ 17179869184) (hs : so l l.length ≤ T) : ∀ i : Nat, i ≤ l.length → (fill l T i).2 = T - so l i ∧ ∀ j : Nat, j < i → rd (fill l T i).1 j = lo l j := by
  intro i
  induction i with
  | zero => intro _; exact ⟨by simp [fill, so], fun j hj => by omega⟩
  | succ i ih =>
    intro hi
    obtain ⟨e, f⟩ := ih (by omega)
    have a := (fill_ok h h0 h1 i (by omega)).1
    have le := so_le h (i + 1) l.length (Nat.le_refl _) hi
    simp only [so] at le
    have m : mn (lo l i) (fill l T i).2 = lo l i := by unfold mn; rw [if_neg (by omega)]
    simp only [fill, so]
    rw [m]
    refine ⟨by omega, fun j hj => ?_⟩
    rw [rd_app a (by omega)]
    by_cases c : j = i
    · rw [if_pos c, c]
    · rw [if_neg c]; exact f j (by omega)
theorem sm_room {l : List S31} {o : List Int} (hf : fs l o l.length < 0) (ho : InO l o) : ∀ i : Nat, i ≤ l.length → sm o i = su l i := by
  intro i
  induction i with
  | zero => intro _; rfl
  | succ i ih =>
    intro hi
    have n := fs_none l o l.length hf i (by omega)
    unfold need at n
    have r := ho.2 i (by omega)
    simp only [sm, su]
    rw [ih (by omega)]; omega
theorem split_all {l : List S31} (h : Ok27 l) (T : Int) : ∃ res, InO l res ∧ sm res l.length ≤ cT T ∧ (sm res l.length = cT T ∨ sm res l.length = su l l.length) ∧
    (so l l.length ≤ cT T → ∀ j : Nat, j < l.length → lo l j ≤ rd res j) ∧ ∀ k, big ≤ k → alloc_Split.f k T l = some res := by
  have hT := cT_span T
  obtain ⟨res, left', a, b, c, d, e⟩ := splits_inv h T (fun o left => sm o l.length + left = cT T ∧ (so l l.length ≤ cT T → ∀ j : Nat, j < l.length → lo l j ≤ rd o j))
    (fun o left ho h0 h1 hf hi => by
      obtain ⟨x, y, z⟩ := rnd_more h ho h0 h1 hf
      exact ⟨by have := hi.1; omega, fun hs j hj => Int.le_trans (hi.2 hs j hj) (z j)⟩)
    ⟨fill_sum h hT.1 hT.2 l.length (Nat.le_refl _), fun hs j hj => by rw [(fill_least h hT.1 hT.2 hs l.length (Nat.le_refl _)).2 j hj]; exact Int.le_refl _⟩
  refine ⟨res, a, by have := b.1; omega, ?_, b.2, e⟩
  rcases d with d | d
  · left; have := b.1; omega
  · right; exact sm_room d a l.length (Nat.le_refl _)
end Go.Proofs.Ytlgfnclgkhfhpaa.P
end

section
namespace Go.Proofs.Ytlgfnclgkhfhpaa.P
open Go.RowKit Go.Proofs.YtlgfnclgkhfhpaaW.PrintWords Go.Proofs.YtlgfnclgkhfhpaaW.PrintLast Go.Proofs.YtlgfnclgkhfhpaaW.PrintMore
set_option linter.unusedVariables false
set_option linter.unusedSimpArgs false
theorem mnx (a b : Int) : mn a b = if b < a then b else a := rfl
theorem mxx (a b : Int) : mx a b = if a < b then b else a := rfl
theorem w64 {a : Int} (h0 : -4611686018427387904 ≤ a) (h1 : a ≤ 4611686018427387904) : wrap64 a = a := wrap64_id (isI64_mk (by omega) (by omega))
theorem cT_id {T : Int} (h0 : 0 ≤ T) (h1 : T ≤ 17179869184) : cT T = T := by unfold cT; rw [if_neg (by omega), if_neg (by omega)]
theorem cT_mx (T : Int) : mx 0 (mn T 17179869184) = cT T := by
  unfold cT
  rw [mxx, mnx]
  repeat' split
  all_goals omega
def cX (T b : Int) : Int := if b < 0 then 0 else if b > cT T / 4 then cT T / 4 else b
theorem cX_span (T b : Int) : 0 ≤ cX T b ∧ cX T b ≤ cT T / 4 := by have := cT_span T; unfold cX; repeat' split <;> omega
def cP (a : Int) : Int := if a < 0 then 0 else if a > 128 then 128 else a
theorem cP_span (a : Int) : 0 ≤ cP a ∧ cP a ≤ 128 := by unfold cP; repeat' split <;> omega
theorem share_all {l : List S31} (h : Ok27 l) (T a b : Int) : ∃ res, InO l res ∧ sm res l.length ≤ cT T - cX T b ∧ (sm res l.length = cT T - cX T b ∨ sm res l.length = su l l.length) ∧
    (so l l.length ≤ cT T - cX T b → ∀ j : Nat, j < l.length → lo l j ≤ rd res j) ∧ ∀ k, big + 200 ≤ k → alloc_Share.f k T l a b = some (shl27 res (cP a) l.length, cX T b) := by
  have l8 := h.1
  have hT := cT_span T
  have hX := cX_span T b
  have hP := cP_span a
  obtain ⟨res, ho, r1, r2, r3, r4⟩ := split_all h (cT T - cX T b)
  rw [cT_id (T := cT T - cX T b) (by omega) (by omega)] at r1 r2 r3
  have e4 : wrap64 (Int.tdiv (cT T) 4) = cT T / 4 := by rw [Int.tdiv_eq_ediv_of_nonneg hT.1, w64 (by omega) (by omega)]
  have hr : ∀ i : Nat, i < res.length → isI64 (rd res i) := by
    intro i hi
    have q1 := ho.2 i (by rw [← ho.1]; exact hi)
    have q2 := h.2 i (by rw [← ho.1]; exact hi)
    exact isI64_mk (by omega) (by omega)
  have rl : res.length ≤ 100 := by rw [ho.1]; omega
  refine ⟨res, ho, r1, r2, r3, fun k hk => ?_⟩
  unfold alloc_Share.f
  have bk : 1000 ≤ big := by unfold big; omega
  rw [good_eq l k (by omega), decide_eq_true h]
  simp only [Option.bind_some, if_true, clamp_eq]
  rw [show (if T < 0 then 0 else if T > 17179869184 then 17179869184 else T) = cT T from rfl, e4, show (if b < 0 then 0 else if b > cT T / 4 then cT T / 4 else b) = cX T b from rfl, show (if a < 0 then 0 else if a > 128 then 128 else a) = cP a from rfl, w64 (a := cT T - cX T b) (by omega) (by omega), r4 k (by omega)]
  simp only [Option.bind_some]
  have s := share_loop rl hr (isI64_mk (by omega) (by omega) : isI64 (cP a)) (x := cX T b) res.length 0 k (by omega) (by omega)
  rw [← ho.1]
  exact s
theorem shl_rd (res : List Int) (p : Int) : ∀ (n i : Nat), i < n → rd_T67 (shl27 res p n) i = ⟨wrap64 (rd res i - md (rd res i) p 256 1), md (rd res i) p 256 1⟩ := by
  intro n
  induction n with
  | zero => intro i hi; omega
  | succ n ih =>
    intro i hi
    have ln := shl27_len res p n
    have prev := ih i
    unfold rd_T67 at prev ⊢
    simp only [shl27, Int.toNat_natCast, List.getD_eq_getElem?_getD] at prev ⊢
    by_cases e : i = n
    · subst e
      rw [List.getElem?_append_right (by omega), ln]; simp
    · rw [List.getElem?_append_left (by omega)]; exact prev (by omega)
theorem part27 {r p : Int} (r0 : 0 ≤ r) (r1 : r ≤ 17179869184) (p0 : 0 ≤ p) (p1 : p ≤ 128) : md r p 256 1 = r * p / 256 ∧ 0 ≤ r * p / 256 ∧ 2 * (r * p / 256) ≤ r ∧ wrap64 (r - r * p / 256) = r - r * p / 256 := by
  have m0 := Int.mul_nonneg r0 p0
  have m1 : r * p ≤ r * 128 := Int.mul_le_mul_of_nonneg_left p1 r0
  have e : md r p 256 1 = r * p / 256 := md_down (by decide) (isI64_mk (by omega) (by omega))
  exact ⟨e, by omega, by omega, w64 (by omega) (by omega)⟩
theorem share_rd {l : List S31} (h : Ok27 l) {res : List Int} (ho : InO l res) (a : Int) {n i : Nat} (hi : i < n) (hn : n ≤ l.length) : rd_T67 (shl27 res (cP a) n) i = ⟨rd res i - rd res i * cP a / 256, rd res i * cP a / 256⟩ := by
  have q1 := ho.2 i (by omega)
  have q2 := h.2 i (by omega)
  have pt := part27 (r := rd res i) (p := cP a) q1.1 (by omega) (cP_span a).1 (cP_span a).2
  rw [shl_rd res _ n i hi, pt.1, pt.2.2.2]
end Go.Proofs.Ytlgfnclgkhfhpaa.P
namespace Go.Proofs.Ytlgfnclgkhfhpaa.Pure
open Go.RowKit Go.Proofs.Ytlgfnclgkhfhpaa.P Go.Proofs.YtlgfnclgkhfhpaaW.PrintWords Go.Proofs.YtlgfnclgkhfhpaaW.PrintLast Go.Proofs.YtlgfnclgkhfhpaaW.PrintMore
end Go.Proofs.Ytlgfnclgkhfhpaa.Pure
end

section
namespace Go.Proofs.Ytlgfnclgkhfhpaa.Pure
open Go.RowKit Go.Proofs.Ytlgfnclgkhfhpaa.P Go.Proofs.YtlgfnclgkhfhpaaW.PrintWords Go.Proofs.YtlgfnclgkhfhpaaW.PrintLast Go.Proofs.YtlgfnclgkhfhpaaW.PrintMore
set_option linter.unusedVariables false
set_option linter.unusedSimpArgs false
theorem AllocSums : flywheellaw27_AllocSums.Pure := by
  intro T l a b _ _ hs
  intros
  have few : flywheellaw27_few.f l = some l := by
    unfold flywheellaw27_few.f
    simp only [Option.bind_some, List.length_nil, List.nil_append]
    rw [if_pos (by omega)]
  have bk : 1000 ≤ big := by unfold big; omega
  refine ⟨big + 300, ?_⟩
  unfold flywheellaw27_AllocSums.f
  rw [rgood_eq _ _ (by omega), Option.bind_some]
  by_cases h : Ok27 l
  · have l8 := h.1
    rw [decide_eq_true h, if_pos rfl, few, Option.bind_some]
    obtain ⟨res, ho, s1, s2, s3, e⟩ := share_all h T (Int.tmod a 1000) b
    rw [e _ (by omega), Option.bind_some, cT_mx]
    dsimp only
    have hT := cT_span T
    have hX := cX_span T b
    have len := shl27_len res (cP (Int.tmod a 1000)) l.length
    have rds : ∀ i : Nat, i < l.length → rd_T67 (shl27 res (cP (Int.tmod a 1000)) l.length) i = ⟨rd res i - rd res i * cP (Int.tmod a 1000) / 256, rd res i * cP (Int.tmod a 1000) / 256⟩ := fun i hi => share_rd h ho _ hi (Nat.le_refl _)
    have pts : ∀ i : Nat, i < l.length → 0 ≤ rd res i * cP (Int.tmod a 1000) / 256 ∧ 2 * (rd res i * cP (Int.tmod a 1000) / 256) ≤ rd res i := fun i hi => by
      have q1 := ho.2 i hi
      have q2 := h.2 i hi
      have pt := part27 (r := rd res i) (p := cP (Int.tmod a 1000)) q1.1 (by omega) (cP_span _).1 (cP_span _).2
      exact ⟨pt.2.1, pt.2.2.1⟩
    generalize shl27 res (cP (Int.tmod a 1000)) l.length = L at len rds ⊢
    generalize cP (Int.tmod a 1000) = p at rds pts
    generalize cX T b = X at s1 s2 s3 hX ⊢
    generalize cT T = t at s1 s2 s3 hT hX ⊢
    have smr : ∀ i : Nat, i ≤ l.length → 0 ≤ sm res i ∧ sm res i ≤ 17179869184 * i := by
      intro i
      induction i with
      | zero => intro _; simp [sm]
      | succ i ih =>
        intro hi
        have := ih (by omega)
        have q1 := ho.2 i (by omega)
        have q2 := h.2 i (by omega)
        simp only [sm]; omega
    have second : ∀ (m i k : Nat), i + m = l.length → m + 100 ≤ k → flywheellaw27_AllocSums.l1 k l t L X (X + sm res l.length) (so l l.length) (su l l.length) i = some true := by
      intro m
      induction m with
      | zero =>
        intro i k hi hk
        obtain ⟨k, rfl⟩ : ∃ j, k = j + 1 := ⟨k - 1, by omega⟩
        rw [flywheellaw27_AllocSums.l1, if_neg (by omega), if_pos (by omega), if_pos hX.1, Int.tdiv_eq_ediv_of_nonneg hT.1, w64 (a := t / 4) (by omega) (by omega), if_pos hX.2, if_pos (by omega)]
        have q := smr l.length (Nat.le_refl _)
        by_cases c : X + sm res l.length = t
        · rw [if_pos c]; exact awake27 _ (by omega)
        · rw [if_neg c, w64 (by omega) (by omega), if_pos (by omega)]; exact awake27 _ (by omega)
      | succ m ih =>
        intro i k hi hk
        obtain ⟨k, rfl⟩ : ∃ j, k = j + 1 := ⟨k - 1, by omega⟩
        have q1 := ho.2 i (by omega)
        have q2 := h.2 i (by omega)
        have go := ih (i + 1) k (by omega) (by omega)
        rw [flywheellaw27_AllocSums.l1, if_pos (by omega), w64 (a := t - X) (by omega) (by omega), w_next (n := 110) (by omega) (by omega)]
        by_cases c : so l l.length ≤ t - X
        · rw [if_pos c, if_pos (by omega), if_pos (by omega), rds i (by omega)]
          dsimp only
          rw [show rd res i - rd res i * p / 256 + rd res i * p / 256 = rd res i by omega, w64 (by omega) (by omega), if_neg (by have s4 : (rd_T31 l (i : Int)).f1 ≤ rd res i := s3 c i (by omega); omega)]
          exact go
        · rw [if_neg c]; exact go
    have first : ∀ (m i k : Nat), i + m = l.length → m + 200 ≤ k → flywheellaw27_AllocSums.l0 k l t L X (X + sm res i) (so l i) (su l i) i = some true := by
      intro m
      induction m with
      | zero =>
        intro i k hi hk
        obtain ⟨k, rfl⟩ : ∃ j, k = j + 1 := ⟨k - 1, by omega⟩
        have e : i = l.length := by omega
        rw [e, flywheellaw27_AllocSums.l0, if_neg (by omega)]
        exact second l.length 0 k (by omega) (by omega)
      | succ m ih =>
        intro i k hi hk
        obtain ⟨k, rfl⟩ : ∃ j, k = j + 1 := ⟨k - 1, by omega⟩
        have q1 := ho.2 i (by omega)
        have q2 := h.2 i (by omega)
        have q5 : 0 ≤ (rd_T31 l (i : Int)).f1 ∧ (rd_T31 l (i : Int)).f1 ≤ (rd_T31 l (i : Int)).f2 ∧ (rd_T31 l (i : Int)).f2 ≤ 17179869184 := q2.2.2
        have q6 : rd res i ≤ (rd_T31 l (i : Int)).f2 := q1.2
        have pt := pts i (by omega)
        have q3 := smr i (by omega)
        have q4 := so_ge h i (by omega)
        have go := ih (i + 1) k (by omega) (by omega)
        simp only [sm, so, su] at go
        rw [flywheellaw27_AllocSums.l0, if_pos (by omega), if_pos (by omega), rds i (by omega)]
        dsimp only
        rw [if_neg (by omega), if_neg (by omega), if_pos (by omega), show rd res i - rd res i * p / 256 + rd res i * p / 256 = rd res i by omega, w64 (a := rd res i) (by omega) (by omega), if_neg (by omega), if_neg (by omega),
          w64 (a := X + sm res i + rd res i) (by omega) (by omega), w64 (a := so l i + (rd_T31 l i).f1) (by omega) (by omega), w64 (a := su l i + (rd_T31 l i).f2) (by omega) (by omega), w_next (n := 110) (by omega) (by omega), Int.add_assoc]
        exact go
    have fin := first l.length 0 (big + 300) (by omega) (by omega)
    simp only [sm, so, su, Int.add_zero] at fin
    exact fin
  · rw [decide_eq_false h, if_neg (by decide)]
    have sh : ∀ k, 10 ≤ k → alloc_Split.nilres.f k T l = some 0 := fun k hk => by
      unfold alloc_Split.nilres.f
      rw [good_eq l k hk, decide_eq_false h]; rfl
    rw [few, Option.bind_some, sh _ (by omega), Option.bind_some]
    exact awake27 _ (by omega)
end Go.Proofs.Ytlgfnclgkhfhpaa.Pure
end

section

end

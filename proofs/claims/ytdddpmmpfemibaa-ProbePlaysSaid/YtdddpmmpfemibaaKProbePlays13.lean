-- PUT TOGETHER by a program of this session: of the claim's texts, what is used
import Derived.Test.YtdddpmmpfemibaaKProbePlays3
import Derived.Deep.Slices
import Derived.Deep.Fields
import Derived.ChangeSame
import Derived.SizedLaws
import Derived.OpenShut
import Derived.WideShapes
section
namespace Go.Proofs.Ytdddpmmpfemibaa.P
open Go.ChangeShapes Go.WideShapes Go.Deep
set_option linter.unusedVariables false
theorem list_of {α : Type} (Q : Nat → α → Prop) (n : Nat) (h : ∀ i, i < n → ∃ y, Q i y) : ∃ l : List α, l.length = n ∧ ∀ i y, l[i]? = some y → Q i y := by
  induction n with
  | zero => exact ⟨[], rfl, fun i y hi => by simp at hi⟩
  | succ n ih =>
    obtain ⟨l, hl, hq⟩ := ih (fun i hi => h i (by omega))
    obtain ⟨y, hy⟩ := h n (by omega)
    refine ⟨l ++ [y], by simp [hl], fun i z hi => ?_⟩
    by_cases hin : i < n
    · rw [List.getElem?_append_left (by omega)] at hi
      exact hq i z hi
    · rw [List.getElem?_append_right (by omega)] at hi
      have e : i = n := by
        have := (List.getElem?_eq_some_iff.1 hi).1
        simp at this; omega
      subst e
      rw [hl, Nat.sub_self] at hi
      simp at hi; subst hi; exact hy
section
variable {H : Type} {enc : TypeId × Value → H} {P : Program} {w : World}
theorem open_rows {α : Type} {t e : TypeId} {a : Option Addr} {len cap : Nat} {d : DataW H} {p : List MemPlace} (cells : α → List Value) (Q : α → Prop) (N : Nat) (hu : P.underlying t = some (.slice e)) (hc : P.cellsOf e = N)
    (hcell : ∀ fuel cs x, DataW.trod enc P w 0 (fun _ => true) true fuel e cs = some x → ∃ y, cs = cells y ∧ Q y)
    (h : DataW.Trod enc P w 0 (fun _ => true) true t (.slice a len cap) d p) :
    ∃ l : List α, len = l.length ∧ l.length ≤ cap ∧ cap ≤ maxLen ∧ (∀ x ∈ l, Q x) ∧ (0 < l.length → ∃ ad, a = some ad ∧ ∀ j y, l[j]? = some y → ∀ i u, (cells y)[i]? = some u → w.cell? (ad.add (j * N + i)) = some u) := by
  obtain ⟨fuel, hf⟩ := h
  rcases open_slice hu hf with ⟨hcs, _⟩ | ⟨x, l, c, m, n, D, Pl, hcs, _, hl, hm, hmm, _, hi⟩
  · simp [Value.cells] at hcs
    obtain ⟨rfl, rfl, rfl⟩ := hcs
    exact ⟨[], rfl, Nat.zero_le _, Nat.zero_le _, (fun x hx => by cases hx), (fun h => by cases h)⟩
  · simp [Value.cells] at hcs
    obtain ⟨rfl, rfl, rfl⟩ := hcs
    rw [hc] at hi
    obtain ⟨L, hL, hq⟩ := list_of (fun i y => Q y ∧ ∀ j u, (cells y)[j]? = some u → w.cell? (x.add (i * N + j)) = some u) len (fun i hil => by
      obtain ⟨cs', h1, h2⟩ := hi i (by rw [hmm]; simp; omega)
      obtain ⟨y, rfl, hy⟩ := hcell _ _ _ h2
      obtain ⟨_, hcl, hat⟩ := World.cells?_some h1
      refine ⟨y, hy, fun j u hu => ?_⟩
      have := hat j (by rw [← hcl]; exact (List.getElem?_eq_some_iff.1 hu).1)
      rw [← Go.Deep.add_add, this, hu])
    refine ⟨L, hL.symm, by omega, hm, fun y hy => ?_, fun _ => ⟨x, rfl, fun j y hj => (hq j y hj).2⟩⟩
    obtain ⟨i, hi⟩ := List.getElem?_of_mem hy
    exact (hq i y hi).1
theorem sized_rows {W : World} {base : Nat} {spare : Nat → Bool} {held : Bool} {t e : TypeId} {a : Option Addr} {len cap : Nat} {d : DataW H} {ps : List MemPlace} {ts : List TypeId} {ds : List (DataW H)} {j : Nat}
    (hsz : (DataW.weightsEach P ts ds).all (· ≤ reachBytes) = true) (ht : ts[j]? = some t) (hd : ds[j]? = some d) (hu : P.underlying t = some (.slice e)) {B : Nat} (hB : P.bytesOf e = B)
    (h : DataW.Trod enc P W base spare held t (.slice a len cap) d ps) : len * B ≤ 140737488351232 := by
  obtain ⟨fuel, hf⟩ := h
  rcases open_slice hu hf with ⟨hcs, _⟩ | ⟨x, l, c, m, n, D, Pl, hcs, _, hl, hm, hmm, hx, hi⟩
  · simp [Value.cells] at hcs
    obtain ⟨rfl, rfl, rfl⟩ := hcs
    simp
  · simp [Value.cells] at hcs
    obtain ⟨rfl, rfl, rfl⟩ := hcs
    obtain ⟨hx, _⟩ := Prod.mk.inj hx
    subst hx
    have z := sized_slice hsz ht hd hu
    rw [hB] at z
    simp only [List.length_map, List.length_range] at z
    have e : reachBytes = 140737488351232 := by decide
    rw [e] at z
    exact Nat.le_trans (Nat.mul_le_mul_right _ (by omega)) z
end
end Go.Proofs.Ytdddpmmpfemibaa.P
end

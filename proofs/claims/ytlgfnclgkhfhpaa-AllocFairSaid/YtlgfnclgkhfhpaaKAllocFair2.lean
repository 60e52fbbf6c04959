-- PUT TOGETHER by a program of this session: of the claim's texts, what is used
import Derived.ScopeJumps
import Derived.WalkKit
section
namespace Go.Proofs.Ytlgfnclgkhfhpaa.P
set_option linter.unusedVariables false
theorem exists_min (p : Nat → Prop) (h : ∃ n, p n) : ∃ n, p n ∧ ∀ m, p m → n ≤ m := by
  obtain ⟨n, hn⟩ := h
  induction n using Nat.strongRecOn with
  | _ n ih =>
    by_cases hm : ∃ m, m < n ∧ p m
    · obtain ⟨m, h1, h2⟩ := hm
      exact ih m h1 h2
    · exact ⟨n, hn, fun m h => Nat.le_of_not_lt (fun hl => hm ⟨m, hl, h⟩)⟩
section
variable {P : Program} {a : Act} {w : World} {Q : Exit → Act → World → Prop}
open Classical in
theorem wp_scope_ghost {c rest : Code} (l : Nat) (J : Nat → Act → World → Prop) (hf : findLabel c l = some rest)
    (pass : ∀ n a w, J n a w → rest.wp P (Exit.jump l (fun a' w' => ∃ m, m < n ∧ J m a' w') Q) a w)
    (first : (∀ n a w, J n a w → rest.wp P (Exit.jump l (fun a' w' => ∃ m, J m a' w') Q) a w) → c.wp P (Exit.jump l (fun a' w' => ∃ m, J m a' w') Q) a w) : (Code.scope c).wp P Q a w := by
  refine wp_scope_jumps l (fun a w => ∃ n, J n a w) (fun a w => if h : ∃ n, J n a w then Classical.choose (exists_min _ h) else 0) hf (first fun n a w h => wp_mono (pass n a w h) fun e a' w' hq => ?_) fun a w h => ?_
  · cases e with
    | goto l' => exact ⟨hq.1, by obtain ⟨m, _, hm⟩ := hq.2; exact ⟨m, hm⟩⟩
    | _ => exact hq
  · have hc := Classical.choose_spec (exists_min _ h)
    refine wp_mono (pass _ a w hc.1) fun e a' w' hq => ?_
    cases e with
    | goto l' =>
      obtain ⟨h1, m, h2, h3⟩ := hq
      have h' : ∃ n, J n a' w' := ⟨m, h3⟩
      refine ⟨h1, h', ?_⟩
      rw [dif_pos h', dif_pos h]
      have := (Classical.choose_spec (exists_min _ h')).2 m h3
      omega
    | _ => exact hq
open Classical in
theorem wp_scope_ghost2 {c rest : Code} (l : Nat) (J : Nat → Act → World → Prop) (hf : findLabel c l = some (.seq .skip rest))
    (pass : ∀ n a w, J n a w → rest.wp P (Exit.jump l (fun a' w' => ∃ m, m < n ∧ J m a' w') Q) a w)
    (first : (∀ n a w, J n a w → rest.wp P (Exit.jump l (fun a' w' => ∃ m, J m a' w') Q) a w) → c.wp P (Exit.jump l (fun a' w' => ∃ m, J m a' w') Q) a w) : (Code.scope c).wp P Q a w := by
  refine wp_scope_ghost l J hf (fun n a w h => wp_seq (wp_skip (pass n a w h))) fun _ => first fun n a w h => wp_mono (pass n a w h) fun e a' w' hq => ?_
  cases e with
  | goto l' => exact ⟨hq.1, by obtain ⟨m, _, hm⟩ := hq.2; exact ⟨m, hm⟩⟩
  | _ => exact hq
theorem wp_label_then {l : Nat} {rest : Code} (h : rest.wp P Q a w) : ((Code.label l).seq rest).wp P Q a w := wp_seq (wp_label h)
end
end Go.Proofs.Ytlgfnclgkhfhpaa.P
end

-- PUT TOGETHER by a program of this session: of the claim's texts, what is used
import Derived.ScopeJumps
import Derived.WalkKit
section
namespace Go.Proofs.YtphgeljglhjamaaDoor.P
set_option linter.unusedVariables false
section
variable {P : Program} {a : Act} {w : World} {Q : Exit → Act → World → Prop}
def Exit.fwd (P : Program) (c : Code) (Q : Exit → Act → World → Prop) : Nat → Exit → Act → World → Prop
  | n + 1, .goto l, a, w => ∃ rest, findLabel c l = some rest ∧ rest.wp P (Exit.fwd P c Q n) a w
  | 0, .goto _, _, _ => False
  | _, e, a, w => Q e a w
theorem Exit.fwd_ret {c : Code} {n : Nat} : Exit.fwd P c Q n .ret a w = Q .ret a w := by cases n <;> rfl
theorem Exit.fwd_normal {c : Code} {n : Nat} : Exit.fwd P c Q n .normal a w = Q .normal a w := by cases n <;> rfl
theorem Exit.fwd_goto {c rest : Code} {n l : Nat} (hf : findLabel c l = some rest) (h : rest.wp P (Exit.fwd P c Q n) a w) : Exit.fwd P c Q (n + 1) (.goto l) a w := ⟨rest, hf, h⟩
theorem wp_scope_fwd {c : Code} (n : Nat) (h : c.wp P (Exit.fwd P c Q n) a w) : (Code.scope c).wp P Q a w := by
  intro b k cs
  have key : ∀ n (r : Code) a w, r.wp P (Exit.fwd P c Q n) a w → ∃ e a' w', Q e a' w' ∧ Arrives P (lone (b.at a (.code r :: .inScope c :: k)) cs w) b k cs e a' w' := by
    intro n
    induction n with
    | zero =>
      intro r a w hr
      obtain ⟨e, a₁, w₁, hq, harr⟩ := hr b (.inScope c :: k) cs
      cases e with
      | normal => exact ⟨.normal, a₁, w₁, hq, Steps.trans harr (.one step_inScope)⟩
      | exit id => exact ⟨.exit id, a₁, w₁, hq, fun k' hk => harr k' (by simp [exitTo, hk])⟩
      | goto l' => exact hq.elim
      | ret => exact ⟨_, a₁, w₁, hq, harr⟩
      | panic ch => exact ⟨_, a₁, w₁, hq, harr⟩
      | outgrown => exact ⟨_, a₁, w₁, hq, harr⟩
    | succ n ih =>
      intro r a w hr
      obtain ⟨e, a₁, w₁, hq, harr⟩ := hr b (.inScope c :: k) cs
      cases e with
      | normal => exact ⟨.normal, a₁, w₁, hq, Steps.trans harr (.one step_inScope)⟩
      | exit id => exact ⟨.exit id, a₁, w₁, hq, fun k' hk => harr k' (by simp [exitTo, hk])⟩
      | goto l' =>
        obtain ⟨rest, hf, hr'⟩ := hq
        have hg : gotoIn l' (.inScope c :: k) = some (.code rest :: .inScope c :: k) := by simp [gotoIn, hf]
        obtain ⟨e₂, a₂, w₂, hq₂, harr₂⟩ := ih rest a₁ w₁ hr'
        exact ⟨e₂, a₂, w₂, hq₂, .of_steps (harr _ hg) harr₂⟩
      | ret => exact ⟨_, a₁, w₁, hq, harr⟩
      | panic ch => exact ⟨_, a₁, w₁, hq, harr⟩
      | outgrown => exact ⟨_, a₁, w₁, hq, harr⟩
  obtain ⟨e, a₁, w₁, hq, harr⟩ := key n c a w h
  refine ⟨e, a₁, w₁, hq, ?_⟩
  exact .of_steps (.one step_scope) harr
end
end Go.Proofs.YtphgeljglhjamaaDoor.P
end

/- A scope with several labels: a jump is followed to its label, wherever that stands. -/
import Derived.Scope
import Derived.WalkMore
namespace Go.Proofs.YtghlfpeifdikkaaDoor
open Go

/-- A goto goes on by J; any other way out by Q. -/
def ExitTo (J : Nat → Act → World → Prop) (Q : Exit → Act → World → Prop) : Exit → Act → World → Prop
  | .goto l, a, w => J l a w
  | e, a, w => Q e a w
/-- From label l of the scope c, with that frame in that world, the scope is left by Q. -/
def FromLabel (P : Program) (c : Code) (Q : Exit → Act → World → Prop) (l : Nat) (a : Act) (w : World) : Prop :=
  ∃ rest, findLabel c l = some rest ∧ ∀ b k cs, ∃ e a' w', Q e a' w' ∧ Arrives P (lone (b.at a (.code rest :: .inScope c :: k)) cs w) b k cs e a' w'

section
variable {P : Program} {a : Act} {w : World} {Q : Exit → Act → World → Prop} {c : Code}
theorem exitTo_ret {J : Nat → Act → World → Prop} : ExitTo J Q .ret a w = Q .ret a w := rfl
theorem exitTo_goto {J : Nat → Act → World → Prop} {l : Nat} : ExitTo J Q (.goto l) a w = J l a w := rfl

/-- What the inner piece's arrival is, seen from outside. -/
theorem scope_out {rest : Code} (b : Frame) (k : List Item) (cs : List Frame)
    (h : ∃ e a' w', ExitTo (FromLabel P c Q) Q e a' w' ∧ Arrives P (lone (b.at a (.code rest :: .inScope c :: k)) cs w) b (.inScope c :: k) cs e a' w') :
    ∃ e a' w', Q e a' w' ∧ Arrives P (lone (b.at a (.code rest :: .inScope c :: k)) cs w) b k cs e a' w' := by
  obtain ⟨e, a₁, w₁, hq, harr⟩ := h
  cases e with
  | normal => exact ⟨.normal, a₁, w₁, hq, Steps.trans harr (.one step_inScope)⟩
  | exit id => exact ⟨.exit id, a₁, w₁, hq, fun k' hk => harr k' (by simp [exitTo, hk])⟩
  | goto l =>
    obtain ⟨r, hf, hr⟩ := hq
    obtain ⟨e₂, a₂, w₂, hq₂, harr₂⟩ := hr b k cs
    exact ⟨e₂, a₂, w₂, hq₂, .of_steps (harr _ (show gotoIn l (.inScope c :: k) = some (.code r :: .inScope c :: k) by simp [gotoIn, hf])) harr₂⟩
  | ret => exact ⟨_, a₁, w₁, hq, harr⟩
  | panic ch => exact ⟨_, a₁, w₁, hq, harr⟩
  | outgrown => exact ⟨_, a₁, w₁, hq, harr⟩
theorem fromLabel {rest : Code} (l : Nat) (hf : findLabel c l = some rest) (h : rest.wp P (ExitTo (FromLabel P c Q) Q) a w) : FromLabel P c Q l a w :=
  ⟨rest, hf, fun b k cs => scope_out b k cs (h b (.inScope c :: k) cs)⟩
theorem wp_scope_labels (h : c.wp P (ExitTo (FromLabel P c Q) Q) a w) : (Code.scope c).wp P Q a w := by
  intro b k cs
  obtain ⟨e, a₁, w₁, hq, harr⟩ := scope_out (rest := c) b k cs (h b (.inScope c :: k) cs)
  cases e with
  | normal => exact ⟨.normal, a₁, w₁, hq, .head step_scope harr⟩
  | exit id => exact ⟨.exit id, a₁, w₁, hq, fun k' hk => .head step_scope (harr k' hk)⟩
  | goto l => exact ⟨.goto l, a₁, w₁, hq, fun k' hk => .head step_scope (harr k' hk)⟩
  | ret => exact ⟨_, a₁, w₁, hq, .of_steps (.one step_scope) harr⟩
  | panic ch => exact ⟨_, a₁, w₁, hq, .of_steps (.one step_scope) harr⟩
  | outgrown => exact ⟨_, a₁, w₁, hq, .of_steps (.one step_scope) harr⟩
end
end Go.Proofs.YtghlfpeifdikkaaDoor

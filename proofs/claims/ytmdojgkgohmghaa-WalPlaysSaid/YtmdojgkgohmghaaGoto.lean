/- A scope with a label that is jumped to once, ahead. -/
import Derived.ScopeJumps
import Derived.WalkMore
namespace Go.OpsL
section
variable {P : Program} {a : Act} {w : World} {Q : Exit → Act → World → Prop}
theorem wp_scope_once {c rest : Code} (l : Nat) (hf : findLabel c l = some rest) (first : c.wp P (Exit.jump l (fun a' w' => rest.wp P (Exit.noGoto Q) a' w') Q) a w) : (Code.scope c).wp P Q a w :=
  wp_scope_jumps l (fun a' w' => rest.wp P (Exit.noGoto Q) a' w') (fun _ _ => 0) hf first (fun a w hJ => wp_mono hJ (fun e a w h => by cases e <;> first | exact h | exact h.elim))
theorem jump_ret {l : Nat} {J : Act → World → Prop} : Exit.jump l J Q .ret a w = Q .ret a w := rfl
theorem jump_goto {l : Nat} {J : Act → World → Prop} (h : J a w) : Exit.jump l J Q (.goto l) a w := ⟨rfl, h⟩
end
end Go.OpsL

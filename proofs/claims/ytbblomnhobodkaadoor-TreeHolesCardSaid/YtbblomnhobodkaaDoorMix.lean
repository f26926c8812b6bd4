/- What this claim reaches of a longer text of this session. -/
import Derived.OrdersHeld
import Derived.Orders
import Derived.Tactics
set_option linter.unusedVariables false
set_option linter.unusedSimpArgs false
namespace Go.Mix
def QF : Exit → Act → World → Prop := fun _ _ _ => False
section
variable {P : Program} {ops : Array Oper} {S : World → Prop} {Q : Exit → Act → World → Prop}
def step (P : Program) (ops : Array Oper) (S : World → Prop) (f : Nat) (o : Oper) (K : Act → World → Prop) (a : Act) (w : World) : Prop :=
  match f with
  | 0 => if Region.wanted o (yielded ops a.tmps) then o.wp P a w (fun a' w' => S w' ∧ K a' w') QF else K (a.put o.dst undef) w
  | 1 => ∃ v, YieldsIf P ops S o v a ∧ K (a.put o.dst v) w
  | 2 => ∃ v, YieldsIf P ops (fun w' => w' = w) o v a ∧ K (a.put o.dst v) w
  | _ => if Region.wanted o (yielded ops a.tmps) then o.wp P a w K QF else K (a.put o.dst undef) w
abbrev It := Nat × Nat × Oper   -- flag, place, operation
def walk (P : Program) (ops : Array Oper) (S : World → Prop) (Q : Exit → Act → World → Prop) : List It → Act → World → Prop
  | [], a, w => Q .normal a w
  | (f, _, o) :: rest, a, w => step P ops S f o (walk P ops S Q rest) a w
variable {bs fl : Nat → Nat}
end
end Go.Mix

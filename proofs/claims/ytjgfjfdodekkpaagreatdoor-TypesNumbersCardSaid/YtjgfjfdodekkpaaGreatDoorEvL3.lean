/-
  A closed call, some rounds of it; no condition.
-/
import Derived.Test.YtjgfjfdodekkpaaGreatDoorEvA
set_option linter.all false

section
namespace Go.Abs
open Go.Proofs
theorem lexIt_48 : iterN (exec TryzG lexCall 0 113 (TryzG.kept 52) 199 lexLoop) 8 LS14_48 = some LS14_56 := by kernel_rfl
end Go.Abs
end

section
namespace Go.Abs
open Go.Proofs
theorem lexFin : endW TryzG 0 Tryz.f52.results.toList (thenE TryzG lexCall 0 113 (TryzG.kept 52) 199 lexRest (blockS 0 (loopN (exec TryzG lexCall 0 113 (TryzG.kept 52) 199 lexLoop) 143 LS14_56))) = some (R14lex, []) := by kernel_rfl
end Go.Abs
end

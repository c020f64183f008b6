/-
  A closed call, some rounds of it; no condition.
-/
import Derived.Test.YtjgfjfdodekkpaaGreatDoorEvA
set_option linter.all false

section
namespace Go.Abs
open Go.Proofs
theorem lexIt_16 : iterN (exec TryzG lexCall 0 113 (TryzG.kept 52) 199 lexLoop) 8 LS14_16 = some LS14_24 := by kernel_rfl
end Go.Abs
end

section
namespace Go.Abs
open Go.Proofs
theorem lexIt_24 : iterN (exec TryzG lexCall 0 113 (TryzG.kept 52) 199 lexLoop) 8 LS14_24 = some LS14_32 := by kernel_rfl
end Go.Abs
end

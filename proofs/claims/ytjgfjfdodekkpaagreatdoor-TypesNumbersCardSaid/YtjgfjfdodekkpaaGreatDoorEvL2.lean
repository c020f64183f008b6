/-
  A closed call, some rounds of it; no condition.
-/
import Derived.Test.YtjgfjfdodekkpaaGreatDoorEvA
set_option linter.all false

section
namespace Go.Abs
open Go.Proofs
theorem lexIt_32 : iterN (exec TryzG lexCall 0 113 (TryzG.kept 52) 199 lexLoop) 8 LS14_32 = some LS14_40 := by kernel_rfl
end Go.Abs
end

section
namespace Go.Abs
open Go.Proofs
theorem lexIt_40 : iterN (exec TryzG lexCall 0 113 (TryzG.kept 52) 199 lexLoop) 8 LS14_40 = some LS14_48 := by kernel_rfl
end Go.Abs
end

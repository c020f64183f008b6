/-
  A closed call, some rounds of it; no condition.
-/
import Derived.Test.YtjgfjfdodekkpaaGreatDoorEvA
set_option linter.all false

section
namespace Go.Abs
open Go.Proofs
theorem lexShape : lexCode = .seq (.block 0 (.loop lexLoop)) lexRest := by kernel_rfl
theorem lexPre : (match Tryz.f52.body with | some c => spineRun TryzG lexCall 0 113 (TryzG.kept 52) 199 4 c { sl := argSl 0 [.dv (.str T14)], tb := [], lk := [] } | none => none) = some LS14_0 := by kernel_rfl
theorem lexIt_0 : iterN (exec TryzG lexCall 0 113 (TryzG.kept 52) 199 lexLoop) 8 LS14_0 = some LS14_8 := by kernel_rfl
end Go.Abs
end

section
namespace Go.Abs
open Go.Proofs
theorem lexIt_8 : iterN (exec TryzG lexCall 0 113 (TryzG.kept 52) 199 lexLoop) 8 LS14_8 = some LS14_16 := by kernel_rfl
end Go.Abs
end

/-
  ScopeKnown: some of its texts, parsed; no condition.
-/
import Derived.Test.YthacohidckonkaaGreatDoorKnownA
set_option linter.all false

section
namespace Go.Abs
open Go.Proofs
theorem crate13_20 : callN TryzG noCalls 200 9 [.dv (.str T13_20)] [] [] 0 = some (R13_20, []) := by kernel_rfl
end Go.Abs
end

section
namespace Go.Abs
open Go.Proofs
theorem crate13_21 : callN TryzG noCalls 200 9 [.dv (.str T13_21)] [] [] 0 = some (R13_21, []) := by kernel_rfl
end Go.Abs
end

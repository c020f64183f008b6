/-
  ScopeKnown: some of its texts, parsed; no condition.
-/
import Derived.Test.YthacohidckonkaaGreatDoorKnownA
set_option linter.all false

section
namespace Go.Abs
open Go.Proofs
theorem crate13_0 : callN TryzG noCalls 200 9 [.dv (.str T13_0)] [] [] 0 = some (R13_0, []) := by kernel_rfl
end Go.Abs
end

section
namespace Go.Abs
open Go.Proofs
theorem crate13_1 : callN TryzG noCalls 200 9 [.dv (.str T13_1)] [] [] 0 = some (R13_1, []) := by kernel_rfl
end Go.Abs
end

section
namespace Go.Abs
open Go.Proofs
theorem crate13_2 : callN TryzG noCalls 200 9 [.dv (.str T13_2)] [] [] 0 = some (R13_2, []) := by kernel_rfl
end Go.Abs
end

section
namespace Go.Abs
open Go.Proofs
theorem crate13_3 : callN TryzG noCalls 200 9 [.dv (.str T13_3)] [] [] 0 = some (R13_3, []) := by kernel_rfl
end Go.Abs
end

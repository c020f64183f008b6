/-
  ScopeKnown: some of its texts, parsed; no condition.
-/
import Derived.Test.YthacohidckonkaaGreatDoorKnownA
set_option linter.all false

section
namespace Go.Abs
open Go.Proofs
theorem crate13_8 : callN TryzG noCalls 200 9 [.dv (.str T13_8)] [] [] 0 = some (R13_8, []) := by kernel_rfl
end Go.Abs
end

section
namespace Go.Abs
open Go.Proofs
theorem crate13_9 : callN TryzG noCalls 200 9 [.dv (.str T13_9)] [] [] 0 = some (R13_9, []) := by kernel_rfl
end Go.Abs
end

section
namespace Go.Abs
open Go.Proofs
theorem crate13_10 : callN TryzG noCalls 200 9 [.dv (.str T13_10)] [] [] 0 = some (R13_10, []) := by kernel_rfl
end Go.Abs
end

section
namespace Go.Abs
open Go.Proofs
theorem crate13_11 : callN TryzG noCalls 200 9 [.dv (.str T13_11)] [] [] 0 = some (R13_11, []) := by kernel_rfl
end Go.Abs
end

/-
  ScopeKnown: some of its texts, parsed; no condition.
-/
import Derived.Test.YthacohidckonkaaGreatDoorKnownA
set_option linter.all false

section
namespace Go.Abs
open Go.Proofs
theorem crate13_12 : callN TryzG noCalls 200 9 [.dv (.str T13_12)] [] [] 0 = some (R13_12, []) := by kernel_rfl
end Go.Abs
end

section
namespace Go.Abs
open Go.Proofs
theorem crate13_13 : callN TryzG noCalls 200 9 [.dv (.str T13_13)] [] [] 0 = some (R13_13, []) := by kernel_rfl
end Go.Abs
end

section
namespace Go.Abs
open Go.Proofs
theorem crate13_14 : callN TryzG noCalls 200 9 [.dv (.str T13_14)] [] [] 0 = some (R13_14, []) := by kernel_rfl
end Go.Abs
end

section
namespace Go.Abs
open Go.Proofs
theorem crate13_15 : callN TryzG noCalls 200 9 [.dv (.str T13_15)] [] [] 0 = some (R13_15, []) := by kernel_rfl
end Go.Abs
end

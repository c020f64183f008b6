/-
  ScopeKnown: some of its texts, parsed; no condition.
-/
import Derived.Test.YthacohidckonkaaGreatDoorKnownA
set_option linter.all false

section
namespace Go.Abs
open Go.Proofs
theorem crate13_16 : callN TryzG noCalls 200 9 [.dv (.str T13_16)] [] [] 0 = some (R13_16, []) := by kernel_rfl
end Go.Abs
end

section
namespace Go.Abs
open Go.Proofs
theorem crate13_17 : callN TryzG noCalls 200 9 [.dv (.str T13_17)] [] [] 0 = some (R13_17, []) := by kernel_rfl
end Go.Abs
end

section
namespace Go.Abs
open Go.Proofs
theorem crate13_18 : callN TryzG noCalls 200 9 [.dv (.str T13_18)] [] [] 0 = some (R13_18, []) := by kernel_rfl
end Go.Abs
end

section
namespace Go.Abs
open Go.Proofs
theorem crate13_19 : callN TryzG noCalls 200 9 [.dv (.str T13_19)] [] [] 0 = some (R13_19, []) := by kernel_rfl
end Go.Abs
end

/-
  ScopeKnown: some of its texts, parsed; no condition.
-/
import Derived.Test.YthacohidckonkaaGreatDoorKnownA
set_option linter.all false

section
namespace Go.Abs
open Go.Proofs
theorem crate13_4 : callN TryzG noCalls 200 9 [.dv (.str T13_4)] [] [] 0 = some (R13_4, []) := by kernel_rfl
end Go.Abs
end

section
namespace Go.Abs
open Go.Proofs
theorem crate13_5 : callN TryzG noCalls 200 9 [.dv (.str T13_5)] [] [] 0 = some (R13_5, []) := by kernel_rfl
end Go.Abs
end

section
namespace Go.Abs
open Go.Proofs
theorem crate13_6 : callN TryzG noCalls 200 9 [.dv (.str T13_6)] [] [] 0 = some (R13_6, []) := by kernel_rfl
end Go.Abs
end

section
namespace Go.Abs
open Go.Proofs
theorem crate13_7 : callN TryzG noCalls 200 9 [.dv (.str T13_7)] [] [] 0 = some (R13_7, []) := by kernel_rfl
end Go.Abs
end

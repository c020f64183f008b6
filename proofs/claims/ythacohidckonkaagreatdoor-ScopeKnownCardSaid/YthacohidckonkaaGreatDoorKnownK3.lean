/-
  ScopeKnown: some of its cases; no condition.
-/
import Derived.Test.YthacohidckonkaaGreatDoorKnownT
set_option linter.all false

section
namespace Go.Abs
open Go.Proofs
theorem case13_18 : fin13 (ex13 tail13_5 (st13_5 18)) = some (.dv (.bool true), []) := by kernel_rfl
end Go.Abs
end

section
namespace Go.Abs
open Go.Proofs
theorem case13_19 : fin13 (ex13 tail13_5 (st13_5 19)) = some (.dv (.bool true), []) := by kernel_rfl
end Go.Abs
end

section
namespace Go.Abs
open Go.Proofs
theorem case13_20 : fin13 (ex13 tail13_5 (st13_5 20)) = some (.dv (.bool true), []) := by kernel_rfl
end Go.Abs
end

section
namespace Go.Abs
open Go.Proofs
theorem case13_21 : fin13 (ex13 tail13_5 (st13_5 21)) = some (.dv (.bool true), []) := by kernel_rfl
end Go.Abs
end

/-
  ScopeKnown: some of its cases; no condition.
-/
import Derived.Test.YthacohidckonkaaGreatDoorKnownT
set_option linter.all false

section
namespace Go.Abs
open Go.Proofs
theorem case13_0 : fin13 (ex13 tail13_5 (st13_5 0)) = some (.dv (.bool true), []) := by kernel_rfl
end Go.Abs
end

section
namespace Go.Abs
open Go.Proofs
theorem case13_1 : fin13 (ex13 tail13_5 (st13_5 1)) = some (.dv (.bool true), []) := by kernel_rfl
end Go.Abs
end

section
namespace Go.Abs
open Go.Proofs
theorem case13_2 : fin13 (ex13 tail13_5 (st13_5 2)) = some (.dv (.bool true), []) := by kernel_rfl
end Go.Abs
end

section
namespace Go.Abs
open Go.Proofs
theorem case13_3 : fin13 (ex13 tail13_5 (st13_5 3)) = some (.dv (.bool true), []) := by kernel_rfl
end Go.Abs
end

section
namespace Go.Abs
open Go.Proofs
theorem case13_4 : fin13 (ex13 tail13_5 (st13_5 4)) = some (.dv (.bool true), []) := by kernel_rfl
end Go.Abs
end

section
namespace Go.Abs
open Go.Proofs
theorem case13_5 : fin13 (ex13 tail13_5 (st13_5 5)) = some (.dv (.bool true), []) := by kernel_rfl
end Go.Abs
end

/-
  ScopeKnown: some of its cases; no condition.
-/
import Derived.Test.YthacohidckonkaaGreatDoorKnownT
set_option linter.all false

section
namespace Go.Abs
open Go.Proofs
theorem case13_12 : fin13 (ex13 tail13_5 (st13_5 12)) = some (.dv (.bool true), []) := by kernel_rfl
end Go.Abs
end

section
namespace Go.Abs
open Go.Proofs
theorem case13_13 : fin13 (ex13 tail13_5 (st13_5 13)) = some (.dv (.bool true), []) := by kernel_rfl
end Go.Abs
end

section
namespace Go.Abs
open Go.Proofs
theorem case13_14 : fin13 (ex13 tail13_5 (st13_5 14)) = some (.dv (.bool true), []) := by kernel_rfl
end Go.Abs
end

section
namespace Go.Abs
open Go.Proofs
theorem case13_15 : fin13 (ex13 tail13_5 (st13_5 15)) = some (.dv (.bool true), []) := by kernel_rfl
end Go.Abs
end

section
namespace Go.Abs
open Go.Proofs
theorem case13_16 : fin13 (ex13 tail13_5 (st13_5 16)) = some (.dv (.bool true), []) := by kernel_rfl
end Go.Abs
end

section
namespace Go.Abs
open Go.Proofs
theorem case13_17 : fin13 (ex13 tail13_5 (st13_5 17)) = some (.dv (.bool true), []) := by kernel_rfl
end Go.Abs
end

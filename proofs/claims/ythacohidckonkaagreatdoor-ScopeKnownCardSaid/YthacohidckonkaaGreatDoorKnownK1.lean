/-
  ScopeKnown: some of its cases; no condition.
-/
import Derived.Test.YthacohidckonkaaGreatDoorKnownT
set_option linter.all false

section
namespace Go.Abs
open Go.Proofs
theorem case13_6 : fin13 (ex13 tail13_5 (st13_5 6)) = some (.dv (.bool true), []) := by kernel_rfl
end Go.Abs
end

section
namespace Go.Abs
open Go.Proofs
theorem case13_7 : fin13 (ex13 tail13_5 (st13_5 7)) = some (.dv (.bool true), []) := by kernel_rfl
end Go.Abs
end

section
namespace Go.Abs
open Go.Proofs
theorem case13_8 : fin13 (ex13 tail13_5 (st13_5 8)) = some (.dv (.bool true), []) := by kernel_rfl
end Go.Abs
end

section
namespace Go.Abs
open Go.Proofs
theorem case13_9 : fin13 (ex13 tail13_5 (st13_5 9)) = some (.dv (.bool true), []) := by kernel_rfl
end Go.Abs
end

section
namespace Go.Abs
open Go.Proofs
theorem case13_10 : fin13 (ex13 tail13_5 (st13_5 10)) = some (.dv (.bool true), []) := by kernel_rfl
end Go.Abs
end

section
namespace Go.Abs
open Go.Proofs
theorem case13_11 : fin13 (ex13 tail13_5 (st13_5 11)) = some (.dv (.bool true), []) := by kernel_rfl
end Go.Abs
end

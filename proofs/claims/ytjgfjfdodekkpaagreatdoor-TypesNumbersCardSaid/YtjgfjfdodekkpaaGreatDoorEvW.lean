/-
  Closed calls: world, told; no condition.
-/
import Derived.Test.YtjgfjfdodekkpaaGreatDoorEvB
import Derived.Test.YtjgfjfdodekkpaaGreatDoorEvN
set_option linter.all false

section
namespace Go.Abs
open Go.Proofs
noncomputable def OW14 : CallF := orElse OC14 (orElse ON14 OR14)
theorem OW14_ok : CallsOK TryzG Tryz.prog TryzGl OW14 := orElse_ok OC14_ok (orElse_ok ON14_ok OR14_ok)
theorem world14 : callN TryzG OW14 199 15 [] [] [] 0 = some (R14world, []) := by kernel_rfl
noncomputable def OX14 : CallF := known1 15 isNone R14world
theorem OX14_ok : CallsOK TryzG Tryz.prog TryzGl OX14 := known1_ok (TryzG_calls OW14_ok 199) fun args hp => by rw [isNone_spec hp]; exact world14
theorem told14 : callN TryzG OX14 199 12 [] [] [] 0 = some (.dv (.bool true), []) := by kernel_rfl
end Go.Abs
end

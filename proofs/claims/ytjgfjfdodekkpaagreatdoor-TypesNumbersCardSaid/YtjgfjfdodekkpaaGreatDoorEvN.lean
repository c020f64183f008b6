/-
  Closed calls: the crate's scopes; no condition.
-/
import Derived.Test.YtjgfjfdodekkpaaGreatDoorEvA
set_option linter.all false

section
namespace Go.Abs
open Go.Proofs
theorem new14 : callN TryzG noCalls 199 39 (A14new.map .dv) [] [] 0 = some (R14new, []) := by kernel_rfl
noncomputable def ON14 : CallF := known1 39 (isDVs A14new) R14new
theorem ON14_ok : CallsOK TryzG Tryz.prog TryzGl ON14 := known1_ok (TryzG_calls noCalls_ok 199) fun args hp => by rw [isDVs_eq hp]; exact new14
end Go.Abs
end

section
namespace Go.Abs
open Go.Proofs
theorem rnew14 : callN TryzG noCalls 199 40 (A14new.map .dv) [] [] 0 = some (R14rnew, []) := by kernel_rfl
noncomputable def OR14 : CallF := known1 40 (isDVs A14new) R14rnew
theorem OR14_ok : CallsOK TryzG Tryz.prog TryzGl OR14 := known1_ok (TryzG_calls noCalls_ok 199) fun args hp => by rw [isDVs_eq hp]; exact rnew14
end Go.Abs
end

/-
  ScopeKnown: what its texts tell; no condition.
-/
import Derived.Test.YthacohidckonkaaGreatDoorKnownC0
import Derived.Test.YthacohidckonkaaGreatDoorKnownC1
import Derived.Test.YthacohidckonkaaGreatDoorKnownC2
import Derived.Test.YthacohidckonkaaGreatDoorKnownC3
import Derived.Test.YthacohidckonkaaGreatDoorKnownC4
import Derived.Test.YthacohidckonkaaGreatDoorKnownC5
import Derived.Test.YthacohidckonkaaGreatDoorKnownA
set_option linter.all false

section
namespace Go.Abs
open Go.Proofs

/-- The texts' crates. -/
noncomputable def O13 : CallF := (orElse (known1 9 (isText T13_0) R13_0) (orElse (known1 9 (isText T13_1) R13_1) (orElse (known1 9 (isText T13_2) R13_2) (orElse (known1 9 (isText T13_3) R13_3) (orElse (known1 9 (isText T13_4) R13_4) (orElse (known1 9 (isText T13_5) R13_5) (orElse (known1 9 (isText T13_6) R13_6) (orElse (known1 9 (isText T13_7) R13_7) (orElse (known1 9 (isText T13_8) R13_8) (orElse (known1 9 (isText T13_9) R13_9) (orElse (known1 9 (isText T13_10) R13_10) (orElse (known1 9 (isText T13_11) R13_11) (orElse (known1 9 (isText T13_12) R13_12) (orElse (known1 9 (isText T13_13) R13_13) (orElse (known1 9 (isText T13_14) R13_14) (orElse (known1 9 (isText T13_15) R13_15) (orElse (known1 9 (isText T13_16) R13_16) (orElse (known1 9 (isText T13_17) R13_17) (orElse (known1 9 (isText T13_18) R13_18) (orElse (known1 9 (isText T13_19) R13_19) (orElse (known1 9 (isText T13_20) R13_20) (orElse (known1 9 (isText T13_21) R13_21) noCalls))))))))))))))))))))))
theorem O13_ok : CallsOK TryzG Tryz.prog TryzGl O13 := by
  have hc := TryzG_calls noCalls_ok 200
  have h0 : CallsOK TryzG Tryz.prog TryzGl (known1 9 (isText T13_0) R13_0) := known1_ok hc fun args hp => by rw [isText_spec hp]; exact crate13_0
  have h1 : CallsOK TryzG Tryz.prog TryzGl (known1 9 (isText T13_1) R13_1) := known1_ok hc fun args hp => by rw [isText_spec hp]; exact crate13_1
  have h2 : CallsOK TryzG Tryz.prog TryzGl (known1 9 (isText T13_2) R13_2) := known1_ok hc fun args hp => by rw [isText_spec hp]; exact crate13_2
  have h3 : CallsOK TryzG Tryz.prog TryzGl (known1 9 (isText T13_3) R13_3) := known1_ok hc fun args hp => by rw [isText_spec hp]; exact crate13_3
  have h4 : CallsOK TryzG Tryz.prog TryzGl (known1 9 (isText T13_4) R13_4) := known1_ok hc fun args hp => by rw [isText_spec hp]; exact crate13_4
  have h5 : CallsOK TryzG Tryz.prog TryzGl (known1 9 (isText T13_5) R13_5) := known1_ok hc fun args hp => by rw [isText_spec hp]; exact crate13_5
  have h6 : CallsOK TryzG Tryz.prog TryzGl (known1 9 (isText T13_6) R13_6) := known1_ok hc fun args hp => by rw [isText_spec hp]; exact crate13_6
  have h7 : CallsOK TryzG Tryz.prog TryzGl (known1 9 (isText T13_7) R13_7) := known1_ok hc fun args hp => by rw [isText_spec hp]; exact crate13_7
  have h8 : CallsOK TryzG Tryz.prog TryzGl (known1 9 (isText T13_8) R13_8) := known1_ok hc fun args hp => by rw [isText_spec hp]; exact crate13_8
  have h9 : CallsOK TryzG Tryz.prog TryzGl (known1 9 (isText T13_9) R13_9) := known1_ok hc fun args hp => by rw [isText_spec hp]; exact crate13_9
  have h10 : CallsOK TryzG Tryz.prog TryzGl (known1 9 (isText T13_10) R13_10) := known1_ok hc fun args hp => by rw [isText_spec hp]; exact crate13_10
  have h11 : CallsOK TryzG Tryz.prog TryzGl (known1 9 (isText T13_11) R13_11) := known1_ok hc fun args hp => by rw [isText_spec hp]; exact crate13_11
  have h12 : CallsOK TryzG Tryz.prog TryzGl (known1 9 (isText T13_12) R13_12) := known1_ok hc fun args hp => by rw [isText_spec hp]; exact crate13_12
  have h13 : CallsOK TryzG Tryz.prog TryzGl (known1 9 (isText T13_13) R13_13) := known1_ok hc fun args hp => by rw [isText_spec hp]; exact crate13_13
  have h14 : CallsOK TryzG Tryz.prog TryzGl (known1 9 (isText T13_14) R13_14) := known1_ok hc fun args hp => by rw [isText_spec hp]; exact crate13_14
  have h15 : CallsOK TryzG Tryz.prog TryzGl (known1 9 (isText T13_15) R13_15) := known1_ok hc fun args hp => by rw [isText_spec hp]; exact crate13_15
  have h16 : CallsOK TryzG Tryz.prog TryzGl (known1 9 (isText T13_16) R13_16) := known1_ok hc fun args hp => by rw [isText_spec hp]; exact crate13_16
  have h17 : CallsOK TryzG Tryz.prog TryzGl (known1 9 (isText T13_17) R13_17) := known1_ok hc fun args hp => by rw [isText_spec hp]; exact crate13_17
  have h18 : CallsOK TryzG Tryz.prog TryzGl (known1 9 (isText T13_18) R13_18) := known1_ok hc fun args hp => by rw [isText_spec hp]; exact crate13_18
  have h19 : CallsOK TryzG Tryz.prog TryzGl (known1 9 (isText T13_19) R13_19) := known1_ok hc fun args hp => by rw [isText_spec hp]; exact crate13_19
  have h20 : CallsOK TryzG Tryz.prog TryzGl (known1 9 (isText T13_20) R13_20) := known1_ok hc fun args hp => by rw [isText_spec hp]; exact crate13_20
  have h21 : CallsOK TryzG Tryz.prog TryzGl (known1 9 (isText T13_21) R13_21) := known1_ok hc fun args hp => by rw [isText_spec hp]; exact crate13_21
  exact (orElse_ok h0 (orElse_ok h1 (orElse_ok h2 (orElse_ok h3 (orElse_ok h4 (orElse_ok h5 (orElse_ok h6 (orElse_ok h7 (orElse_ok h8 (orElse_ok h9 (orElse_ok h10 (orElse_ok h11 (orElse_ok h12 (orElse_ok h13 (orElse_ok h14 (orElse_ok h15 (orElse_ok h16 (orElse_ok h17 (orElse_ok h18 (orElse_ok h19 (orElse_ok h20 (orElse_ok h21 noCalls_ok))))))))))))))))))))))
end Go.Abs
end

section
namespace Go.Abs
open Go.Proofs
theorem told13 : callN TryzG O13 200 11 [] [] [] 0 = some (.dv (.bool true), []) := by kernel_rfl
/-- With 'told' known too. -/
noncomputable def O13t : CallF := orElse (known1 11 isNone (.dv (.bool true))) O13
theorem O13t_ok : CallsOK TryzG Tryz.prog TryzGl O13t := orElse_ok (known1_ok (TryzG_calls O13_ok 200) fun args hp => by rw [isNone_spec hp]; exact told13) O13_ok
end Go.Abs
end

section
namespace Go.Abs
open Go.Proofs

theorem exec_chain {G : Ctx} {call : CallF} {base nt : Nat} {kept : Nat → List Nat} {k : Nat} {a b : Code} {st st1 : St} (h : exec G call base nt kept k a st = some (.norm, st1)) : exec G call base nt kept k (.seq a b) st = exec G call base nt kept k b st1 := by
  simp only [exec, h]

/-- What a call of ScopeKnown ends with. -/
noncomputable def fin13 (x : Option (EX × St)) : Option (AV × List (Nat × Ent)) := match x with
  | some (.exit _, _) => none
  | some (_, st') => match resultsOf TryzG 0 st' Tryz.f3.results.toList with
    | some r => bif below 0 (tbIds (oldTb 0 st'.tb)) then some (r, oldTb 0 st'.tb) else none
    | none => none
  | none => none
noncomputable def ex13 (c : Code) (st : St) : Option (EX × St) := exec TryzG (callN TryzG O13t 200) 0 65 (TryzG.kept 3) 200 c st

theorem body13_0 : tail13_0 = .seq (leftOf tail13_0) tail13_1 := by kernel_rfl
theorem body13_1 : tail13_1 = .seq (leftOf tail13_1) tail13_2 := by kernel_rfl
theorem body13_2 : tail13_2 = .seq (leftOf tail13_2) tail13_3 := by kernel_rfl
theorem body13_3 : tail13_3 = .seq (leftOf tail13_3) tail13_4 := by kernel_rfl
theorem body13_4 : tail13_4 = .seq (leftOf tail13_4) tail13_5 := by kernel_rfl
theorem reg13_0 (n : Int) : ex13 (leftOf tail13_0) (st13_0 n) = some (.norm, st13_1 n) := by kernel_rfl
theorem reg13_1 (n : Int) : ex13 (leftOf tail13_1) (st13_1 n) = some (.norm, st13_2 n) := by kernel_rfl
theorem reg13_2 (n : Int) : ex13 (leftOf tail13_2) (st13_2 n) = some (.norm, st13_3 n) := by kernel_rfl
theorem reg13_3 (n : Int) : ex13 (leftOf tail13_3) (st13_3 n) = some (.norm, st13_4 n) := by kernel_rfl
theorem reg13_4 (n : Int) : ex13 (leftOf tail13_4) (st13_4 n) = some (.norm, st13_5 (idx13 n)) := by kernel_rfl

theorem pre13 (n : Int) : ex13 body13 (st13_0 n) = ex13 tail13_5 (st13_5 (idx13 n)) := by
  show ex13 tail13_0 (st13_0 n) = _
  rw [body13_0]; show exec _ _ _ _ _ _ (.seq _ _) _ = _; rw [exec_chain (reg13_0 n)]; show ex13 tail13_1 (st13_1 n) = _
  rw [body13_1]; show exec _ _ _ _ _ _ (.seq _ _) _ = _; rw [exec_chain (reg13_1 n)]; show ex13 tail13_2 (st13_2 n) = _
  rw [body13_2]; show exec _ _ _ _ _ _ (.seq _ _) _ = _; rw [exec_chain (reg13_2 n)]; show ex13 tail13_3 (st13_3 n) = _
  rw [body13_3]; show exec _ _ _ _ _ _ (.seq _ _) _ = _; rw [exec_chain (reg13_3 n)]; show ex13 tail13_4 (st13_4 n) = _
  rw [body13_4]; show exec _ _ _ _ _ _ (.seq _ _) _ = _; rw [exec_chain (reg13_4 n)]; show ex13 tail13_5 (st13_5 (idx13 n)) = _
  rfl
theorem step13 (n : Int) : callStep TryzG 200 (callN TryzG O13t 200) 3 [.dv (.int .i64 n)] [] [] 0 = fin13 (ex13 body13 (st13_0 n)) := by kernel_rfl
end Go.Abs
end

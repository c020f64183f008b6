/-
  Closed calls: a text's tokens, its crate; no condition.
-/
import Derived.Test.YtjgfjfdodekkpaaGreatDoorEvL0
import Derived.Test.YtjgfjfdodekkpaaGreatDoorEvL1
import Derived.Test.YtjgfjfdodekkpaaGreatDoorEvL2
import Derived.Test.YtjgfjfdodekkpaaGreatDoorEvL3
set_option linter.all false

section
namespace Go.Abs
open Go.Proofs
noncomputable def lexBody : Code := match Tryz.f52.body with | some c => c | none => .skip
theorem lexBody_eq : Tryz.f52.body = some lexBody := by kernel_rfl
theorem lex14 : callStep TryzG 199 lexCall 52 [.dv (.str T14)] [] [] 0 = some (R14lex, []) := by
  rw [callStepW TryzG _ _ _ (G_fn 52 |>.trans Tryz.func52) lexBody_eq (by kernel_rfl)]
  have hp : spineRun TryzG lexCall 0 113 (TryzG.kept 52) 199 4 lexBody { sl := argSl 0 [.dv (.str T14)], tb := [], lk := [] } = some LS14_0 := lexPre
  have hs : spineDrop 4 lexBody = .seq (.block 0 (.loop lexLoop)) lexRest := lexShape
  have e := spineRun_exec TryzG lexCall 0 113 (TryzG.kept 52) 199 hp
  show endW TryzG 0 Tryz.f52.results.toList (exec TryzG lexCall 0 113 (TryzG.kept 52) 199 lexBody _) = _
  rw [e, hs, execW_seq, execW_block, execW_loop]
  unfold loopW
  rw [show loopN (exec TryzG lexCall 0 113 (TryzG.kept 52) 199 lexLoop) 199 LS14_0 = loopN (exec TryzG lexCall 0 113 (TryzG.kept 52) 199 lexLoop) 191 LS14_8 from iterN_loop 191 lexIt_0]
  rw [show loopN (exec TryzG lexCall 0 113 (TryzG.kept 52) 199 lexLoop) 191 LS14_8 = loopN (exec TryzG lexCall 0 113 (TryzG.kept 52) 199 lexLoop) 183 LS14_16 from iterN_loop 183 lexIt_8]
  rw [show loopN (exec TryzG lexCall 0 113 (TryzG.kept 52) 199 lexLoop) 183 LS14_16 = loopN (exec TryzG lexCall 0 113 (TryzG.kept 52) 199 lexLoop) 175 LS14_24 from iterN_loop 175 lexIt_16]
  rw [show loopN (exec TryzG lexCall 0 113 (TryzG.kept 52) 199 lexLoop) 175 LS14_24 = loopN (exec TryzG lexCall 0 113 (TryzG.kept 52) 199 lexLoop) 167 LS14_32 from iterN_loop 167 lexIt_24]
  rw [show loopN (exec TryzG lexCall 0 113 (TryzG.kept 52) 199 lexLoop) 167 LS14_32 = loopN (exec TryzG lexCall 0 113 (TryzG.kept 52) 199 lexLoop) 159 LS14_40 from iterN_loop 159 lexIt_32]
  rw [show loopN (exec TryzG lexCall 0 113 (TryzG.kept 52) 199 lexLoop) 159 LS14_40 = loopN (exec TryzG lexCall 0 113 (TryzG.kept 52) 199 lexLoop) 151 LS14_48 from iterN_loop 151 lexIt_40]
  rw [show loopN (exec TryzG lexCall 0 113 (TryzG.kept 52) 199 lexLoop) 151 LS14_48 = loopN (exec TryzG lexCall 0 113 (TryzG.kept 52) 199 lexLoop) 143 LS14_56 from iterN_loop 143 lexIt_48]
  exact lexFin
theorem lexCall_ok : CallsOK TryzG Tryz.prog TryzGl lexCall := TryzG_calls noCalls_ok 199
/-- The text's tokens known. -/
noncomputable def OL14 : CallF := known1 52 (isText T14) R14lex
theorem OL14_ok : CallsOK TryzG Tryz.prog TryzGl OL14 := known1_ok (step_ok TryzG_prims TryzG_ties 199 lexCall_ok) fun args hp => by rw [isText_spec hp]; exact lex14
end Go.Abs
end

section
namespace Go.Abs
open Go.Proofs
theorem crate14 : callN TryzG OL14 199 38 [.dv (.str T14)] [] [] 0 = some (R14crate, []) := by kernel_rfl
noncomputable def OC14 : CallF := known1 38 (isText T14) R14crate
theorem OC14_ok : CallsOK TryzG Tryz.prog TryzGl OC14 := known1_ok (TryzG_calls OL14_ok 199) fun args hp => by rw [isText_spec hp]; exact crate14
end Go.Abs
end

/-
  What functions of the seat's program answer, for every input of theirs (small types, where it says so).
-/
import Derived.Test.YtjgfjfdodekkpaaGreatDoorWalkA
set_option linter.all false

section
namespace Go.Abs
open Go.Proofs
set_option maxRecDepth 10000
set_option maxHeartbeats 4000000

theorem w_plain (c : CallF) (t : RT) (ih : ∀ e : RT, SizeOf.sizeOf e < SizeOf.sizeOf t → c 11 [.dv e.dv] [] [] 0 = some (.dv (.bool e.plain), [])) (n : Nat) :
    callStep TryzG n c 11 [.dv t.dv] [] [] 0 = some (.dv (.bool t.plain), []) := by
  rw [callStepW TryzG _ _ _ (G_fn 11 |>.trans Tryz.func11) rfl rfl]
  have hn : ((t.rg.length = 1) = True ∧ (t.rg.length = 0) = False) ∨ ((t.rg.length = 1) = False ∧ (t.rg.length = 0) = True) ∨ ((t.rg.length = 1) = False ∧ (t.rg.length = 0) = False) := by
    rcases t.rg.length with _ | _ | n <;> simp
  rcases map_split t.el with hel | ⟨e, l, hel, l0⟩
  · have l0 : t.el.length = 0 := by rw [hel]; rfl
    rcases kcases t.k with ⟨k3, k4, k5, kr⟩ | ⟨k3, k4, k5, kr⟩ | ⟨k3, k4, k5, kr⟩ | ⟨k3, k4, k5, kr⟩ <;> rcases hn with ⟨n1, n0⟩ | ⟨n1, n0⟩ | ⟨n1, n0⟩ <;>
      simp (disch := omega) only [go_sem, reduceCtorEq, Nat.reduceLT, Nat.reduceLeDiff, Nat.reduceEqDiff, Nat.reduceAdd, Nat.reduceMul, Nat.reducePow, Nat.reduceDiv, Nat.reduceMod, Nat.reduceOr, Int.reduceLE, Int.reduceLT, Int.reduceEq, Int.reduceAdd, Int.reduceSub, Int.reduceNeg, KF11, Tryz.f11, k3, k4, k5, kr, n1, n0, l0, RT.plain_nil hel]
  · have ih := ih e (RT.sz' (by rw [hel]; simp))
    have g0 : (t.el.map RT.dv)[0]? = some e.dv := by rw [hel]; rfl
    by_cases hl : t.el.length ≤ 1
    · have hl' : ¬ 0 < l.length := by omega
      rcases kcases t.k with ⟨k3, k4, k5, kr⟩ | ⟨k3, k4, k5, kr⟩ | ⟨k3, k4, k5, kr⟩ | ⟨k3, k4, k5, kr⟩ <;> rcases hn with ⟨n1, n0⟩ | ⟨n1, n0⟩ | ⟨n1, n0⟩ <;>
        simp (disch := omega) only [go_sem, reduceCtorEq, Nat.reduceLT, Nat.reduceLeDiff, Nat.reduceEqDiff, Nat.reduceAdd, Nat.reduceMul, Nat.reducePow, Nat.reduceDiv, Nat.reduceMod, Nat.reduceOr, Int.reduceLE, Int.reduceLT, Int.reduceEq, Int.reduceAdd, Int.reduceSub, Int.reduceNeg, KF11, Tryz.f11, k3, k4, k5, kr, n1, n0, hl, hl', ih, g0, RT.plain_cons hel, eq_false (show ¬ t.el.length ≤ 0 by omega), eq_false (show ¬ t.el.length = 0 by omega)]
    · have hl' : 0 < l.length := by omega
      rcases kcases t.k with ⟨k3, k4, k5, kr⟩ | ⟨k3, k4, k5, kr⟩ | ⟨k3, k4, k5, kr⟩ | ⟨k3, k4, k5, kr⟩ <;> rcases hn with ⟨n1, n0⟩ | ⟨n1, n0⟩ | ⟨n1, n0⟩ <;>
        simp (disch := omega) only [go_sem, reduceCtorEq, Nat.reduceLT, Nat.reduceLeDiff, Nat.reduceEqDiff, Nat.reduceAdd, Nat.reduceMul, Nat.reducePow, Nat.reduceDiv, Nat.reduceMod, Nat.reduceOr, Int.reduceLE, Int.reduceLT, Int.reduceEq, Int.reduceAdd, Int.reduceSub, Int.reduceNeg, KF11, Tryz.f11, k3, k4, k5, kr, n1, n0, hl, hl', RT.plain_cons hel, eq_false (show ¬ t.el.length ≤ 0 by omega)]
end Go.Abs
end

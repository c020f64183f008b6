/-
  What functions of the seat's program answer, for every input of theirs (small types, where it says so).
-/
import Derived.Test.YtjgfjfdodekkpaaGreatDoorWalkA
set_option linter.all false

section
namespace Go.Abs
open Go.Proofs
set_option maxRecDepth 10000
set_option maxHeartbeats 4000000

theorem w_Copy (c : CallF) (t : RT) (n : Nat) : callStep TryzG n c 29 [.dv t.dv] [] [] 0 = some (.dv (.bool t.copy), []) := by
  rw [callStepW TryzG _ _ _ (G_fn 29 |>.trans Tryz.func29) rfl rfl]
  by_cases h1 : t.k = 1
  · simp (disch := omega) only [go_sem, reduceCtorEq, Nat.reduceLT, Nat.reduceLeDiff, Nat.reduceEqDiff, Nat.reduceAdd, Nat.reduceMul, Nat.reducePow, Nat.reduceDiv, Nat.reduceMod, Nat.reduceOr, Int.reduceLE, Int.reduceLT, Int.reduceEq, Int.reduceAdd, Int.reduceSub, Int.reduceNeg, KF29, Tryz.f29, eq_true h1, RT.copy_eq]
  · by_cases h2 : t.k = 2
    · simp (disch := omega) only [go_sem, reduceCtorEq, Nat.reduceLT, Nat.reduceLeDiff, Nat.reduceEqDiff, Nat.reduceAdd, Nat.reduceMul, Nat.reducePow, Nat.reduceDiv, Nat.reduceMod, Nat.reduceOr, Int.reduceLE, Int.reduceLT, Int.reduceEq, Int.reduceAdd, Int.reduceSub, Int.reduceNeg, KF29, Tryz.f29, eq_false h1, eq_true h2, RT.copy_eq]
    · simp (disch := omega) only [go_sem, reduceCtorEq, Nat.reduceLT, Nat.reduceLeDiff, Nat.reduceEqDiff, Nat.reduceAdd, Nat.reduceMul, Nat.reducePow, Nat.reduceDiv, Nat.reduceMod, Nat.reduceOr, Int.reduceLE, Int.reduceLT, Int.reduceEq, Int.reduceAdd, Int.reduceSub, Int.reduceNeg, KF29, Tryz.f29, eq_false h1, eq_false h2, RT.copy_eq]
theorem w_CopyR (c : CallF) (t : RT) (n : Nat) : callStep TryzG n c 30 [.dv t.dv] [] [] 0 = some (.dv (.bool t.copy), []) := by
  rw [callStepW TryzG _ _ _ (G_fn 30 |>.trans Tryz.func30) rfl rfl]
  by_cases h1 : t.k = 1
  · simp (disch := omega) only [go_sem, reduceCtorEq, Nat.reduceLT, Nat.reduceLeDiff, Nat.reduceEqDiff, Nat.reduceAdd, Nat.reduceMul, Nat.reducePow, Nat.reduceDiv, Nat.reduceMod, Nat.reduceOr, Int.reduceLE, Int.reduceLT, Int.reduceEq, Int.reduceAdd, Int.reduceSub, Int.reduceNeg, KF30, Tryz.f30, eq_true h1, RT.copy_eq]
  · by_cases h2 : t.k = 2
    · simp (disch := omega) only [go_sem, reduceCtorEq, Nat.reduceLT, Nat.reduceLeDiff, Nat.reduceEqDiff, Nat.reduceAdd, Nat.reduceMul, Nat.reducePow, Nat.reduceDiv, Nat.reduceMod, Nat.reduceOr, Int.reduceLE, Int.reduceLT, Int.reduceEq, Int.reduceAdd, Int.reduceSub, Int.reduceNeg, KF30, Tryz.f30, eq_false h1, eq_true h2, RT.copy_eq]
    · simp (disch := omega) only [go_sem, reduceCtorEq, Nat.reduceLT, Nat.reduceLeDiff, Nat.reduceEqDiff, Nat.reduceAdd, Nat.reduceMul, Nat.reducePow, Nat.reduceDiv, Nat.reduceMod, Nat.reduceOr, Int.reduceLE, Int.reduceLT, Int.reduceEq, Int.reduceAdd, Int.reduceSub, Int.reduceNeg, KF30, Tryz.f30, eq_false h1, eq_false h2, RT.copy_eq]

theorem w_Same (c : CallF) (a b : RT) (hE : c 50 [.dv (.lst (a.el.map RT.dv)), .dv (.lst (b.el.map RT.dv)), .dv (.fn 27 [])] [] [] 0 = some (.dv (.bool (RT.sames a.el b.el)), [])) (n : Nat) :
    callStep TryzG n c 27 [.dv a.dv, .dv b.dv] [] [] 0 = some (.dv (.bool (a.same b)), []) := by
  rw [callStepW TryzG _ _ _ (G_fn 27 |>.trans Tryz.func27) rfl rfl]
  by_cases h1 : a.k = b.k
  · by_cases h2 : a.n = b.n
    · by_cases h3 : a.rg.length = b.rg.length
      · simp (disch := omega) only [go_sem, reduceCtorEq, Nat.reduceLT, Nat.reduceLeDiff, Nat.reduceEqDiff, Nat.reduceAdd, Nat.reduceMul, Nat.reducePow, Nat.reduceDiv, Nat.reduceMod, Nat.reduceOr, Int.reduceLE, Int.reduceLT, Int.reduceEq, Int.reduceAdd, Int.reduceSub, Int.reduceNeg, KF27, Tryz.f27, eq_true h1, eq_true h2, eq_true h3, RT.same_eq, hE]
      · simp (disch := omega) only [go_sem, reduceCtorEq, Nat.reduceLT, Nat.reduceLeDiff, Nat.reduceEqDiff, Nat.reduceAdd, Nat.reduceMul, Nat.reducePow, Nat.reduceDiv, Nat.reduceMod, Nat.reduceOr, Int.reduceLE, Int.reduceLT, Int.reduceEq, Int.reduceAdd, Int.reduceSub, Int.reduceNeg, KF27, Tryz.f27, eq_true h1, eq_true h2, eq_false h3, RT.same_eq]
    · simp (disch := omega) only [go_sem, reduceCtorEq, Nat.reduceLT, Nat.reduceLeDiff, Nat.reduceEqDiff, Nat.reduceAdd, Nat.reduceMul, Nat.reducePow, Nat.reduceDiv, Nat.reduceMod, Nat.reduceOr, Int.reduceLE, Int.reduceLT, Int.reduceEq, Int.reduceAdd, Int.reduceSub, Int.reduceNeg, KF27, Tryz.f27, eq_true h1, eq_false h2, RT.same_eq]
  · simp (disch := omega) only [go_sem, reduceCtorEq, Nat.reduceLT, Nat.reduceLeDiff, Nat.reduceEqDiff, Nat.reduceAdd, Nat.reduceMul, Nat.reducePow, Nat.reduceDiv, Nat.reduceMod, Nat.reduceOr, Int.reduceLE, Int.reduceLT, Int.reduceEq, Int.reduceAdd, Int.reduceSub, Int.reduceNeg, KF27, Tryz.f27, eq_false h1, RT.same_eq]




theorem w_EqualFunc (c : CallF) (xs ys : List RT) (hl : xs.length ≤ maxLen) (ih : ∀ x ∈ xs, ∀ y ∈ ys, c 27 [.dv x.dv, .dv y.dv] [] [] 0 = some (.dv (.bool (x.same y)), [])) :
    callStep TryzG (xs.length + 1) c 50 [.dv (.lst (xs.map RT.dv)), .dv (.lst (ys.map RT.dv)), .dv (.fn 27 [])] [] [] 0 = some (.dv (.bool (RT.sames xs ys)), []) := by
  rw [callStepW TryzG _ _ _ (G_fn 50 |>.trans Tryz.func50) rfl rfl]
  rw [RT.sames_zip]
  by_cases h1 : xs.length = ys.length
  · simp (disch := omega) only [go_sem, reduceCtorEq, Nat.reduceLT, Nat.reduceLeDiff, Nat.reduceEqDiff, Nat.reduceAdd, Nat.reduceMul, Nat.reducePow, Nat.reduceDiv, Nat.reduceMod, Nat.reduceOr, Int.reduceLE, Int.reduceLT, Int.reduceEq, Int.reduceAdd, Int.reduceSub, Int.reduceNeg, KF50, Tryz.f50, eq_true h1]
    generalize hX : loopW _ _ _ _ _ _ _ _ = X
    generalize hr : (xs.zip ys).all (fun p => p.1.same p.2) = r
    have hz : (xs.zip ys).length = xs.length := by rw [List.length_zip]; omega
    apply loopU (xs.zip ys) (fun l => l.all fun p => p.1.same p.2) (fun i => [(17, .dv (.int .i64 (i : Nat)))]) hX hr (by omega) rfl ?_ (fun i x q hi hx hq => ?_) <;> clear hX
    · simp (disch := omega) only [go_sem, reduceCtorEq, Nat.reduceLT, Nat.reduceLeDiff, Nat.reduceEqDiff, Nat.reduceAdd, Nat.reduceMul, Nat.reducePow, Nat.reduceDiv, Nat.reduceMod, Nat.reduceOr, Int.reduceLE, Int.reduceLT, Int.reduceEq, Int.reduceAdd, Int.reduceSub, Int.reduceNeg, KF50, Tryz.f50, hz, List.all_nil]
    · obtain ⟨ha, hb⟩ := zip_get hx
      have hi' : ¬ xs.length ≤ i := by omega
      have hxa : (xs.map RT.dv)[i]? = some x.1.dv := by simp [ha]
      have hxb : (ys.map RT.dv)[i]? = some x.2.dv := by simp [hb]
      have ih := ih x.1 (List.mem_of_getElem? ha) x.2 (List.mem_of_getElem? hb)
      have hw := wrapS (i := i) (n := xs.length) (by omega) hl
      cases hd : x.1.same x.2 with
      | true => simp (disch := omega) only [go_sem, reduceCtorEq, Nat.reduceLT, Nat.reduceLeDiff, Nat.reduceEqDiff, Nat.reduceAdd, Nat.reduceMul, Nat.reducePow, Nat.reduceDiv, Nat.reduceMod, Nat.reduceOr, Int.reduceLE, Int.reduceLT, Int.reduceEq, Int.reduceAdd, Int.reduceSub, Int.reduceNeg, KF50, Tryz.f50, hi', hxa, hxb, hw, ih, hd, List.all_cons]
      | false => simp (disch := omega) only [go_sem, reduceCtorEq, Nat.reduceLT, Nat.reduceLeDiff, Nat.reduceEqDiff, Nat.reduceAdd, Nat.reduceMul, Nat.reducePow, Nat.reduceDiv, Nat.reduceMod, Nat.reduceOr, Int.reduceLE, Int.reduceLT, Int.reduceEq, Int.reduceAdd, Int.reduceSub, Int.reduceNeg, KF50, Tryz.f50, hi', hxa, hxb, hw, ih, hd, List.all_cons]
  · simp (disch := omega) only [go_sem, reduceCtorEq, Nat.reduceLT, Nat.reduceLeDiff, Nat.reduceEqDiff, Nat.reduceAdd, Nat.reduceMul, Nat.reducePow, Nat.reduceDiv, Nat.reduceMod, Nat.reduceOr, Int.reduceLE, Int.reduceLT, Int.reduceEq, Int.reduceAdd, Int.reduceSub, Int.reduceNeg, KF50, Tryz.f50, eq_false h1]

theorem w_SameR (c : CallF) (a b : RT) (hl : a.el.length ≤ maxLen) (ih : ∀ x ∈ a.el, ∀ y ∈ b.el, c 28 [.dv x.dv, .dv y.dv] [] [] 0 = some (.dv (.bool (x.same y)), [])) :
    callStep TryzG (a.el.length + 1) c 28 [.dv a.dv, .dv b.dv] [] [] 0 = some (.dv (.bool (a.same b)), []) := by
  rw [callStepW TryzG _ _ _ (G_fn 28 |>.trans Tryz.func28) rfl rfl]
  rw [RT.same_eq, RT.sames_zip]
  by_cases h1 : a.k = b.k
  · by_cases h2 : a.n = b.n
    · by_cases h3 : a.rg.length = b.rg.length
      · by_cases h4 : a.el.length = b.el.length
        · simp (disch := omega) only [go_sem, reduceCtorEq, Nat.reduceLT, Nat.reduceLeDiff, Nat.reduceEqDiff, Nat.reduceAdd, Nat.reduceMul, Nat.reducePow, Nat.reduceDiv, Nat.reduceMod, Nat.reduceOr, Int.reduceLE, Int.reduceLT, Int.reduceEq, Int.reduceAdd, Int.reduceSub, Int.reduceNeg, KF28, Tryz.f28, eq_true h1, eq_true h2, eq_true h3, eq_true h4]
          generalize hX : loopW _ _ _ _ _ _ _ _ = X
          generalize hr : (a.el.zip b.el).all (fun p => p.1.same p.2) = r
          have hz : (a.el.zip b.el).length = a.el.length := by rw [List.length_zip]; omega
          apply loopU (a.el.zip b.el) (fun l => l.all fun p => p.1.same p.2) (fun i => [(5, .dv (.int .i64 (i : Nat)))]) hX hr (by omega) rfl ?_ (fun i x q hi hx hq => ?_) <;> clear hX
          · simp (disch := omega) only [go_sem, reduceCtorEq, Nat.reduceLT, Nat.reduceLeDiff, Nat.reduceEqDiff, Nat.reduceAdd, Nat.reduceMul, Nat.reducePow, Nat.reduceDiv, Nat.reduceMod, Nat.reduceOr, Int.reduceLE, Int.reduceLT, Int.reduceEq, Int.reduceAdd, Int.reduceSub, Int.reduceNeg, KF28, Tryz.f28, hz, List.all_nil]
          · obtain ⟨ha, hb⟩ := zip_get hx
            have hi' : ¬ a.el.length ≤ i := by omega
            have hxa : (a.el.map RT.dv)[i]? = some x.1.dv := by simp [ha]
            have hxb : (b.el.map RT.dv)[i]? = some x.2.dv := by simp [hb]
            have ih := ih x.1 (List.mem_of_getElem? ha) x.2 (List.mem_of_getElem? hb)
            have hw := wrapS (i := i) (n := a.el.length) (by omega) hl
            cases hd : x.1.same x.2 with
            | true => simp (disch := omega) only [go_sem, reduceCtorEq, Nat.reduceLT, Nat.reduceLeDiff, Nat.reduceEqDiff, Nat.reduceAdd, Nat.reduceMul, Nat.reducePow, Nat.reduceDiv, Nat.reduceMod, Nat.reduceOr, Int.reduceLE, Int.reduceLT, Int.reduceEq, Int.reduceAdd, Int.reduceSub, Int.reduceNeg, KF28, Tryz.f28, hi', hxa, hxb, hw, ih, hd, List.all_cons]
            | false => simp (disch := omega) only [go_sem, reduceCtorEq, Nat.reduceLT, Nat.reduceLeDiff, Nat.reduceEqDiff, Nat.reduceAdd, Nat.reduceMul, Nat.reducePow, Nat.reduceDiv, Nat.reduceMod, Nat.reduceOr, Int.reduceLE, Int.reduceLT, Int.reduceEq, Int.reduceAdd, Int.reduceSub, Int.reduceNeg, KF28, Tryz.f28, hi', hxa, hxb, hw, ih, hd, List.all_cons]
        · simp (disch := omega) only [go_sem, reduceCtorEq, Nat.reduceLT, Nat.reduceLeDiff, Nat.reduceEqDiff, Nat.reduceAdd, Nat.reduceMul, Nat.reducePow, Nat.reduceDiv, Nat.reduceMod, Nat.reduceOr, Int.reduceLE, Int.reduceLT, Int.reduceEq, Int.reduceAdd, Int.reduceSub, Int.reduceNeg, KF28, Tryz.f28, eq_true h1, eq_true h2, eq_true h3, eq_false h4]
      · simp (disch := omega) only [go_sem, reduceCtorEq, Nat.reduceLT, Nat.reduceLeDiff, Nat.reduceEqDiff, Nat.reduceAdd, Nat.reduceMul, Nat.reducePow, Nat.reduceDiv, Nat.reduceMod, Nat.reduceOr, Int.reduceLE, Int.reduceLT, Int.reduceEq, Int.reduceAdd, Int.reduceSub, Int.reduceNeg, KF28, Tryz.f28, eq_true h1, eq_true h2, eq_false h3]
    · simp (disch := omega) only [go_sem, reduceCtorEq, Nat.reduceLT, Nat.reduceLeDiff, Nat.reduceEqDiff, Nat.reduceAdd, Nat.reduceMul, Nat.reducePow, Nat.reduceDiv, Nat.reduceMod, Nat.reduceOr, Int.reduceLE, Int.reduceLT, Int.reduceEq, Int.reduceAdd, Int.reduceSub, Int.reduceNeg, KF28, Tryz.f28, eq_true h1, eq_false h2]
  · simp (disch := omega) only [go_sem, reduceCtorEq, Nat.reduceLT, Nat.reduceLeDiff, Nat.reduceEqDiff, Nat.reduceAdd, Nat.reduceMul, Nat.reducePow, Nat.reduceDiv, Nat.reduceMod, Nat.reduceOr, Int.reduceLE, Int.reduceLT, Int.reduceEq, Int.reduceAdd, Int.reduceSub, Int.reduceNeg, KF28, Tryz.f28, eq_false h1]
end Go.Abs
end

section
namespace Go.Abs
open Go.Proofs
set_option maxRecDepth 10000
set_option maxHeartbeats 4000000

theorem w_Exact (c : CallF) (t : RT) (hr : t.rg.length ≤ maxLen) (hl : t.el.length ≤ maxLen) (hS : c 28 [.dv t.dv, .dv t.dv] [] [] 0 = some (.dv (.bool (t.same t)), []))
    (ih : ∀ e ∈ t.el, c 19 [.dv e.dv, .dv e.dv] [] [] 0 = some (.dv (.bool true), [])) :
    callStep TryzG (t.rg.length + t.el.length + 1) c 19 [.dv t.dv, .dv t.dv] [] [] 0 = some (.dv (.bool true), []) := by
  rw [callStepW TryzG _ _ _ (G_fn 19 |>.trans Tryz.func19) rfl rfl]
  simp (disch := omega) only [go_sem, reduceCtorEq, Nat.reduceLT, Nat.reduceLeDiff, Nat.reduceEqDiff, Nat.reduceAdd, Nat.reduceMul, Nat.reducePow, Nat.reduceDiv, Nat.reduceMod, Nat.reduceOr, Int.reduceLE, Int.reduceLT, Int.reduceEq, Int.reduceAdd, Int.reduceSub, Int.reduceNeg, KF19, Tryz.f19, hS, RT.same_refl]
  generalize hX : loopW _ _ _ _ _ _ _ _ = X
  apply loopT t.rg (fun i => [(5, .dv (.int .i64 (i : Nat)))]) (fun i => []) hX (by omega) rfl ?_ (fun i x hi hx => ?_) <;> clear hX
  · simp (disch := omega) only [go_sem, reduceCtorEq, Nat.reduceLT, Nat.reduceLeDiff, Nat.reduceEqDiff, Nat.reduceAdd, Nat.reduceMul, Nat.reducePow, Nat.reduceDiv, Nat.reduceMod, Nat.reduceOr, Int.reduceLE, Int.reduceLT, Int.reduceEq, Int.reduceAdd, Int.reduceSub, Int.reduceNeg, KF19, Tryz.f19]
    generalize hX : loopW _ _ _ _ _ _ _ _ = X
    apply loopT t.el (fun i => [(6, .dv (.int .i64 (i : Nat)))]) (fun i => []) hX (by omega) rfl ?_ (fun i x hi hx => ?_) <;> clear hX
    · simp (disch := omega) only [go_sem, reduceCtorEq, Nat.reduceLT, Nat.reduceLeDiff, Nat.reduceEqDiff, Nat.reduceAdd, Nat.reduceMul, Nat.reducePow, Nat.reduceDiv, Nat.reduceMod, Nat.reduceOr, Int.reduceLE, Int.reduceLT, Int.reduceEq, Int.reduceAdd, Int.reduceSub, Int.reduceNeg, KF19, Tryz.f19]
    · have hi' : ¬ t.el.length ≤ i := by omega
      have hx' : (t.el.map RT.dv)[i]? = some x.dv := by simp [hx]
      have hw := wrapS (i := i) (n := t.el.length) (by omega) hl
      have ih := ih x (List.mem_of_getElem? hx)
      simp (disch := omega) only [go_sem, reduceCtorEq, Nat.reduceLT, Nat.reduceLeDiff, Nat.reduceEqDiff, Nat.reduceAdd, Nat.reduceMul, Nat.reducePow, Nat.reduceDiv, Nat.reduceMod, Nat.reduceOr, Int.reduceLE, Int.reduceLT, Int.reduceEq, Int.reduceAdd, Int.reduceSub, Int.reduceNeg, KF19, Tryz.f19, hi', hx', hw, ih]
  · have hi' : ¬ t.rg.length ≤ i := by omega
    have hx' : (t.rg.map (DV.int .i64))[i]? = some (.int .i64 x) := by simp [hx]
    have hw := wrapS (i := i) (n := t.rg.length) (by omega) hr
    simp (disch := omega) only [go_sem, reduceCtorEq, Nat.reduceLT, Nat.reduceLeDiff, Nat.reduceEqDiff, Nat.reduceAdd, Nat.reduceMul, Nat.reducePow, Nat.reduceDiv, Nat.reduceMod, Nat.reduceOr, Int.reduceLE, Int.reduceLT, Int.reduceEq, Int.reduceAdd, Int.reduceSub, Int.reduceNeg, KF19, Tryz.f19, hi', hx', hw]

theorem w_Ints (c : CallF) (l : List Int) (hl : l.length ≤ maxLen) :
    callStep TryzG (l.length + 1) c 25 [.dv (.lst (l.map (DV.int .i64))), .dv (.lst (l.map (DV.int .i64)))] [] [] 0 = some (.dv (.bool true), []) := by
  rw [callStepW TryzG _ _ _ (G_fn 25 |>.trans Tryz.func25) rfl rfl]
  simp (disch := omega) only [go_sem, reduceCtorEq, Nat.reduceLT, Nat.reduceLeDiff, Nat.reduceEqDiff, Nat.reduceAdd, Nat.reduceMul, Nat.reducePow, Nat.reduceDiv, Nat.reduceMod, Nat.reduceOr, Int.reduceLE, Int.reduceLT, Int.reduceEq, Int.reduceAdd, Int.reduceSub, Int.reduceNeg, KF25, Tryz.f25]
  generalize hX : loopW _ _ _ _ _ _ _ _ = X
  apply loopT l (fun i => [(5, .dv (.int .i64 (i : Nat)))]) (fun i => []) hX (by omega) rfl ?_ (fun i x hi hx => ?_) <;> clear hX
  · simp (disch := omega) only [go_sem, reduceCtorEq, Nat.reduceLT, Nat.reduceLeDiff, Nat.reduceEqDiff, Nat.reduceAdd, Nat.reduceMul, Nat.reducePow, Nat.reduceDiv, Nat.reduceMod, Nat.reduceOr, Int.reduceLE, Int.reduceLT, Int.reduceEq, Int.reduceAdd, Int.reduceSub, Int.reduceNeg, KF25, Tryz.f25]
  · have hi' : ¬ l.length ≤ i := by omega
    have hx' : (l.map (DV.int .i64))[i]? = some (.int .i64 x) := by simp [hx]
    have hw := wrapS (i := i) (n := l.length) (by omega) hl
    simp (disch := omega) only [go_sem, reduceCtorEq, Nat.reduceLT, Nat.reduceLeDiff, Nat.reduceEqDiff, Nat.reduceAdd, Nat.reduceMul, Nat.reducePow, Nat.reduceDiv, Nat.reduceMod, Nat.reduceOr, Int.reduceLE, Int.reduceLT, Int.reduceEq, Int.reduceAdd, Int.reduceSub, Int.reduceNeg, KF25, Tryz.f25, hi', hx', hw]

theorem w_Pairs (c : CallF) (l : List (Int × Int)) (hl : l.length ≤ maxLen) :
    callStep TryzG (l.length + 1) c 31 [.dv (.lst (l.map pairD)), .dv (.lst (l.map pairD))] [] [] 0 = some (.dv (.bool true), []) := by
  rw [callStepW TryzG _ _ _ (G_fn 31 |>.trans Tryz.func31) rfl rfl]
  simp (disch := omega) only [go_sem, reduceCtorEq, Nat.reduceLT, Nat.reduceLeDiff, Nat.reduceEqDiff, Nat.reduceAdd, Nat.reduceMul, Nat.reducePow, Nat.reduceDiv, Nat.reduceMod, Nat.reduceOr, Int.reduceLE, Int.reduceLT, Int.reduceEq, Int.reduceAdd, Int.reduceSub, Int.reduceNeg, KF31, Tryz.f31]
  generalize hX : loopW _ _ _ _ _ _ _ _ = X
  apply loopT l (fun i => [(5, .dv (.int .i64 (i : Nat)))]) (fun i => []) hX (by omega) rfl ?_ (fun i x hi hx => ?_) <;> clear hX
  · simp (disch := omega) only [go_sem, reduceCtorEq, Nat.reduceLT, Nat.reduceLeDiff, Nat.reduceEqDiff, Nat.reduceAdd, Nat.reduceMul, Nat.reducePow, Nat.reduceDiv, Nat.reduceMod, Nat.reduceOr, Int.reduceLE, Int.reduceLT, Int.reduceEq, Int.reduceAdd, Int.reduceSub, Int.reduceNeg, KF31, Tryz.f31]
  · have hi' : ¬ l.length ≤ i := by omega
    have hx' : (l.map pairD)[i]? = some (pairD x) := by simp [hx]
    have hw := wrapS (i := i) (n := l.length) (by omega) hl
    simp (disch := omega) only [go_sem, reduceCtorEq, Nat.reduceLT, Nat.reduceLeDiff, Nat.reduceEqDiff, Nat.reduceAdd, Nat.reduceMul, Nat.reducePow, Nat.reduceDiv, Nat.reduceMod, Nat.reduceOr, Int.reduceLE, Int.reduceLT, Int.reduceEq, Int.reduceAdd, Int.reduceSub, Int.reduceNeg, KF31, Tryz.f31, hi', hx', hw, pairD_eq]
end Go.Abs
end

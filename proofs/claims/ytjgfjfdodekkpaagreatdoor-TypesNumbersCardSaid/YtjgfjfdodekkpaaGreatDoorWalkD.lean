/-
  What functions of the seat's program answer, for every input of theirs (small types, where it says so).
-/
import Derived.Test.YtjgfjfdodekkpaaGreatDoorWalkA
set_option linter.all false

section
namespace Go.Abs
open Go.Proofs
set_option maxRecDepth 10000
set_option maxHeartbeats 4000000

theorem putR_neg {m : List Int} {x : Int} (h : ¬ 0 ≤ x) : putR m x = x := by simp [putR, h]
theorem putR_out {m : List Int} {i : Nat} (h : m.length ≤ i) : putR m (i : Int) = i := by
  have : ¬ (i : Int) < m.length := by omega
  simp [putR, this]
theorem putR_in {m : List Int} {i : Nat} {y : Int} (h : m[i]? = some y) : putR m (i : Int) = y := by
  have : i < m.length := (List.getElem?_eq_some_iff.1 h).1
  have h2 : (i : Int) < m.length := by omega
  simp [putR, h2, List.getD_eq_getElem?_getD, h]

theorem w_SubstR (c : CallF) (t : RT) (ht : t.Small) (m : List Int) (ih : ∀ e : RT, SizeOf.sizeOf e < SizeOf.sizeOf t → e.Small → c 20 [.dv e.dv, .dv (.lst (m.map (DV.int .i64)))] [] [] 0 = some (.dv (e.subst m).dv, [])) :
    callStep TryzG 100 c 20 [.dv t.dv, .dv (.lst (m.map (DV.int .i64)))] [] [] 0 = some (.dv (t.subst m).dv, []) := by
  rw [callStepW TryzG _ _ _ (G_fn 20 |>.trans Tryz.func20) rfl rfl]
  obtain ⟨h1, h2, h3⟩ := ht.inv'
  simp (disch := omega) only [go_sem, reduceCtorEq, Nat.reduceLT, Nat.reduceLeDiff, Nat.reduceEqDiff, Nat.reduceAdd, Nat.reduceMul, Nat.reducePow, Nat.reduceDiv, Nat.reduceMod, Nat.reduceOr, Int.reduceLE, Int.reduceLT, Int.reduceEq, Int.reduceAdd, Int.reduceSub, Int.reduceNeg, KF20, Tryz.f20]
  generalize hX : loopW _ _ _ _ _ _ _ _ = X
  apply loopT t.rg (fun i => [(6, .dv (.int .i64 (i : Nat)))]) (fun i => [(5, .box [.dv (.int .i64 t.k), .dv (.str t.n), .own 3 (((t.rg.take i).map (putR m)).map (DV.int .i64)), .own 25 []])]) hX (by omega) rfl ?_ (fun i x hi hx => ?_) <;> clear hX
  · simp (disch := omega) only [go_sem, reduceCtorEq, Nat.reduceLT, Nat.reduceLeDiff, Nat.reduceEqDiff, Nat.reduceAdd, Nat.reduceMul, Nat.reducePow, Nat.reduceDiv, Nat.reduceMod, Nat.reduceOr, Int.reduceLE, Int.reduceLT, Int.reduceEq, Int.reduceAdd, Int.reduceSub, Int.reduceNeg, KF20, Tryz.f20, List.take_length]
    generalize hX : loopW _ _ _ _ _ _ _ _ = X
    apply loopT t.el (fun i => [(8, .dv (.int .i64 (i : Nat)))]) (fun i => [(5, .box [.dv (.int .i64 t.k), .dv (.str t.n), .own 3 ((t.rg.map (putR m)).map (DV.int .i64)), .own 25 (((t.el.take i).map (RT.subst m)).map RT.dv)])]) hX (by omega) rfl ?_ (fun i x hi hx => ?_) <;> clear hX
    · rcases map_split t.rg with hs | ⟨y, r, hs, hsl⟩ <;> rcases map_split t.el with hu | ⟨z, q, hu, hul⟩ <;> simp (disch := omega) only [go_sem, reduceCtorEq, Nat.reduceLT, Nat.reduceLeDiff, Nat.reduceEqDiff, Nat.reduceAdd, Nat.reduceMul, Nat.reducePow, Nat.reduceDiv, Nat.reduceMod, Nat.reduceOr, Int.reduceLE, Int.reduceLT, Int.reduceEq, Int.reduceAdd, Int.reduceSub, Int.reduceNeg, KF20, Tryz.f20, List.take_length, RT.subst_dv, hs, hu]
    · have hi' : ¬ t.el.length ≤ i := by omega
      have hx' : (t.el.map RT.dv)[i]? = some x.dv := by simp [hx]
      have hw := wrapS (i := i) (n := 70) (by omega) (by decide)
      have ih := ih x (RT.sz' (List.mem_of_getElem? hx)) (h3 x (List.mem_of_getElem? hx))
      have htk := take_next hx
      have hl : (List.take i t.el).length ≤ 70 := by simp only [List.length_take]; omega
      simp (disch := omega) only [go_sem, reduceCtorEq, Nat.reduceLT, Nat.reduceLeDiff, Nat.reduceEqDiff, Nat.reduceAdd, Nat.reduceMul, Nat.reducePow, Nat.reduceDiv, Nat.reduceMod, Nat.reduceOr, Int.reduceLE, Int.reduceLT, Int.reduceEq, Int.reduceAdd, Int.reduceSub, Int.reduceNeg, KF20, Tryz.f20, hi', hx', hw, ih, htk]
  · have hi' : ¬ t.rg.length ≤ i := by omega
    have hx' : (t.rg.map (DV.int .i64))[i]? = some (.int .i64 x) := by simp [hx]
    have hw := wrapS (i := i) (n := 70) (by omega) (by decide)
    have htk := take_next hx
    have hl : (List.take i t.rg).length ≤ 70 := by simp only [List.length_take]; omega
    by_cases x0 : 0 ≤ x
    · obtain ⟨j, rfl⟩ := Int.eq_ofNat_of_zero_le x0
      by_cases hj : m.length ≤ j
      · simp (disch := omega) only [go_sem, reduceCtorEq, Nat.reduceLT, Nat.reduceLeDiff, Nat.reduceEqDiff, Nat.reduceAdd, Nat.reduceMul, Nat.reducePow, Nat.reduceDiv, Nat.reduceMod, Nat.reduceOr, Int.reduceLE, Int.reduceLT, Int.reduceEq, Int.reduceAdd, Int.reduceSub, Int.reduceNeg, KF20, Tryz.f20, hi', hx', hw, htk, hj, putR_out hj]
      · obtain ⟨y, hy⟩ : ∃ y, m[j]? = some y := ⟨m[j], by simp [show j < m.length by omega]⟩
        have hy' : (m.map (DV.int .i64))[j]? = some (.int .i64 y) := by simp [hy]
        simp (disch := omega) only [go_sem, reduceCtorEq, Nat.reduceLT, Nat.reduceLeDiff, Nat.reduceEqDiff, Nat.reduceAdd, Nat.reduceMul, Nat.reducePow, Nat.reduceDiv, Nat.reduceMod, Nat.reduceOr, Int.reduceLE, Int.reduceLT, Int.reduceEq, Int.reduceAdd, Int.reduceSub, Int.reduceNeg, KF20, Tryz.f20, hi', hx', hw, htk, hj, hy', putR_in hy]
    · simp (disch := omega) only [go_sem, reduceCtorEq, Nat.reduceLT, Nat.reduceLeDiff, Nat.reduceEqDiff, Nat.reduceAdd, Nat.reduceMul, Nat.reducePow, Nat.reduceDiv, Nat.reduceMod, Nat.reduceOr, Int.reduceLE, Int.reduceLT, Int.reduceEq, Int.reduceAdd, Int.reduceSub, Int.reduceNeg, KF20, Tryz.f20, hi', hx', hw, htk, x0, putR_neg x0]
theorem w_Subst (c : CallF) (t : RT) (ht : t.Small) (m : List Int) (ih : ∀ e : RT, SizeOf.sizeOf e < SizeOf.sizeOf t → e.Small → c 23 [.dv e.dv, .dv (.lst (m.map (DV.int .i64)))] [] [] 0 = some (.dv (e.subst m).dv, [])) :
    callStep TryzG 100 c 23 [.dv t.dv, .dv (.lst (m.map (DV.int .i64)))] [] [] 0 = some (.dv (t.subst m).dv, []) := by
  rw [callStepW TryzG _ _ _ (G_fn 23 |>.trans Tryz.func23) rfl rfl]
  obtain ⟨h1, h2, h3⟩ := ht.inv'
  simp (disch := omega) only [go_sem, reduceCtorEq, Nat.reduceLT, Nat.reduceLeDiff, Nat.reduceEqDiff, Nat.reduceAdd, Nat.reduceMul, Nat.reducePow, Nat.reduceDiv, Nat.reduceMod, Nat.reduceOr, Int.reduceLE, Int.reduceLT, Int.reduceEq, Int.reduceAdd, Int.reduceSub, Int.reduceNeg, KF23, Tryz.f23]
  generalize hX : loopW _ _ _ _ _ _ _ _ = X
  apply loopT t.rg (fun i => [(18, .dv (.int .i64 (i : Nat)))]) (fun i => [(5, .box [.dv (.int .i64 t.k), .dv (.str t.n), .own 3 (((t.rg.take i).map (putR m)).map (DV.int .i64)), .own 25 []])]) hX (by omega) rfl ?_ (fun i x hi hx => ?_) <;> clear hX
  · simp (disch := omega) only [go_sem, reduceCtorEq, Nat.reduceLT, Nat.reduceLeDiff, Nat.reduceEqDiff, Nat.reduceAdd, Nat.reduceMul, Nat.reducePow, Nat.reduceDiv, Nat.reduceMod, Nat.reduceOr, Int.reduceLE, Int.reduceLT, Int.reduceEq, Int.reduceAdd, Int.reduceSub, Int.reduceNeg, KF23, Tryz.f23, List.take_length]
    generalize hX : loopW _ _ _ _ _ _ _ _ = X
    apply loopT t.el (fun i => [(44, .dv (.int .i64 (i : Nat)))]) (fun i => [(5, .box [.dv (.int .i64 t.k), .dv (.str t.n), .own 3 ((t.rg.map (putR m)).map (DV.int .i64)), .own 25 (((t.el.take i).map (RT.subst m)).map RT.dv)])]) hX (by omega) rfl ?_ (fun i x hi hx => ?_) <;> clear hX
    · rcases map_split t.rg with hs | ⟨y, r, hs, hsl⟩ <;> rcases map_split t.el with hu | ⟨z, q, hu, hul⟩ <;> simp (disch := omega) only [go_sem, reduceCtorEq, Nat.reduceLT, Nat.reduceLeDiff, Nat.reduceEqDiff, Nat.reduceAdd, Nat.reduceMul, Nat.reducePow, Nat.reduceDiv, Nat.reduceMod, Nat.reduceOr, Int.reduceLE, Int.reduceLT, Int.reduceEq, Int.reduceAdd, Int.reduceSub, Int.reduceNeg, KF23, Tryz.f23, List.take_length, RT.subst_dv, hs, hu]
    · have hi' : ¬ t.el.length ≤ i := by omega
      have hx' : (t.el.map RT.dv)[i]? = some x.dv := by simp [hx]
      have hw := wrapS (i := i) (n := 70) (by omega) (by decide)
      have ih := ih x (RT.sz' (List.mem_of_getElem? hx)) (h3 x (List.mem_of_getElem? hx))
      have htk := take_next hx
      have hl : (List.take i t.el).length ≤ 70 := by simp only [List.length_take]; omega
      simp (disch := omega) only [go_sem, reduceCtorEq, Nat.reduceLT, Nat.reduceLeDiff, Nat.reduceEqDiff, Nat.reduceAdd, Nat.reduceMul, Nat.reducePow, Nat.reduceDiv, Nat.reduceMod, Nat.reduceOr, Int.reduceLE, Int.reduceLT, Int.reduceEq, Int.reduceAdd, Int.reduceSub, Int.reduceNeg, KF23, Tryz.f23, hi', hx', hw, ih, htk]
  · have hi' : ¬ t.rg.length ≤ i := by omega
    have hx' : (t.rg.map (DV.int .i64))[i]? = some (.int .i64 x) := by simp [hx]
    have hw := wrapS (i := i) (n := 70) (by omega) (by decide)
    have htk := take_next hx
    have hl : (List.take i t.rg).length ≤ 70 := by simp only [List.length_take]; omega
    by_cases x0 : 0 ≤ x
    · obtain ⟨j, rfl⟩ := Int.eq_ofNat_of_zero_le x0
      by_cases hj : m.length ≤ j
      · simp (disch := omega) only [go_sem, reduceCtorEq, Nat.reduceLT, Nat.reduceLeDiff, Nat.reduceEqDiff, Nat.reduceAdd, Nat.reduceMul, Nat.reducePow, Nat.reduceDiv, Nat.reduceMod, Nat.reduceOr, Int.reduceLE, Int.reduceLT, Int.reduceEq, Int.reduceAdd, Int.reduceSub, Int.reduceNeg, KF23, Tryz.f23, hi', hx', hw, htk, hj, putR_out hj]
      · obtain ⟨y, hy⟩ : ∃ y, m[j]? = some y := ⟨m[j], by simp [show j < m.length by omega]⟩
        have hy' : (m.map (DV.int .i64))[j]? = some (.int .i64 y) := by simp [hy]
        simp (disch := omega) only [go_sem, reduceCtorEq, Nat.reduceLT, Nat.reduceLeDiff, Nat.reduceEqDiff, Nat.reduceAdd, Nat.reduceMul, Nat.reducePow, Nat.reduceDiv, Nat.reduceMod, Nat.reduceOr, Int.reduceLE, Int.reduceLT, Int.reduceEq, Int.reduceAdd, Int.reduceSub, Int.reduceNeg, KF23, Tryz.f23, hi', hx', hw, htk, hj, hy', putR_in hy]
    · simp (disch := omega) only [go_sem, reduceCtorEq, Nat.reduceLT, Nat.reduceLeDiff, Nat.reduceEqDiff, Nat.reduceAdd, Nat.reduceMul, Nat.reducePow, Nat.reduceDiv, Nat.reduceMod, Nat.reduceOr, Int.reduceLE, Int.reduceLT, Int.reduceEq, Int.reduceAdd, Int.reduceSub, Int.reduceNeg, KF23, Tryz.f23, hi', hx', hw, htk, x0, putR_neg x0]
end Go.Abs
end

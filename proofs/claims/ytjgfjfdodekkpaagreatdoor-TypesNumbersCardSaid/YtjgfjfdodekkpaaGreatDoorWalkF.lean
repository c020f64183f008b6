/-
  What functions of the seat's program answer, for every input of theirs (small types, where it says so).
-/
import Derived.Test.YtjgfjfdodekkpaaGreatDoorWalkA
set_option linter.all false

section
namespace Go.Abs
open Go.Proofs
set_option maxRecDepth 10000
set_option maxHeartbeats 4000000

theorem w_both (c : CallF) (acc : List (Int × Int)) (x y : List Int) (hl : x.length = y.length) (hx : x.length ≤ 100000) (ha : acc.length ≤ 1000) :
    callStep TryzG 100001 c 70 [.dv (.lst (x.map (DV.int .i64))), .dv (.lst (y.map (DV.int .i64))), .ptr 5 0] [(5, .box [.own 32 (acc.map pairD)])] [] 83 = some (.tup [], [(5, .box [.own 32 ((acc ++ bothR x y).map pairD)])]) := by
  rw [callStepW TryzG _ _ _ (G_fn 70 |>.trans Tryz.func70) rfl rfl]
  simp (disch := omega) only [go_sem, reduceCtorEq, Nat.reduceLT, Nat.reduceLeDiff, Nat.reduceEqDiff, Nat.reduceAdd, Nat.reduceMul, Nat.reducePow, Nat.reduceDiv, Nat.reduceMod, Nat.reduceOr, Int.reduceLE, Int.reduceLT, Int.reduceEq, Int.reduceAdd, Int.reduceSub, Int.reduceNeg, KF70, Tryz.f70]
  generalize hX : loopW _ _ _ _ _ _ _ _ = X
  apply loopT x (fun i => [(8, .dv (.int .i64 (i : Nat)))]) (fun i => [(5, .box [.own 32 ((acc ++ bothR (x.take i) (y.take i)).map pairD)])]) hX (by omega) (by simp only [List.take_zero, bothR, List.append_nil]; rfl) ?_ (fun i u hi hu => ?_) <;> clear hX
  · simp (disch := omega) only [go_sem, reduceCtorEq, Nat.reduceLT, Nat.reduceLeDiff, Nat.reduceEqDiff, Nat.reduceAdd, Nat.reduceMul, Nat.reducePow, Nat.reduceDiv, Nat.reduceMod, Nat.reduceOr, Int.reduceLE, Int.reduceLT, Int.reduceEq, Int.reduceAdd, Int.reduceSub, Int.reduceNeg, KF70, Tryz.f70, List.take_length, show y.take x.length = y by rw [hl, List.take_length]]
  · have hi' : ¬ x.length ≤ i := by omega
    have hx' : (x.map (DV.int .i64))[i]? = some (.int .i64 u) := by simp [hu]
    obtain ⟨v, hv⟩ : ∃ v, y[i]? = some v := ⟨y[i], by simp [show i < y.length by omega]⟩
    have hy' : (y.map (DV.int .i64))[i]? = some (.int .i64 v) := by simp [hv]
    have hw := wrapS (i := i) (n := 100000) (by omega) (by decide)
    have hn := bothR_next hu hv
    have b1 := bothR_length (x.take i) (y.take i)
    have b2 : (x.take i).length ≤ 100000 := by simp only [List.length_take]; omega
    have b4 : (List.map pairD acc ++ List.map pairD (bothR (x.take i) (y.take i))).length ≤ 201000 := by simp only [List.length_append, List.length_map]; omega
    simp (disch := omega) only [go_sem, reduceCtorEq, Nat.reduceLT, Nat.reduceLeDiff, Nat.reduceEqDiff, Nat.reduceAdd, Nat.reduceMul, Nat.reducePow, Nat.reduceDiv, Nat.reduceMod, Nat.reduceOr, Int.reduceLE, Int.reduceLT, Int.reduceEq, Int.reduceAdd, Int.reduceSub, Int.reduceNeg, KF70, Tryz.f70, hi', hx', hy', hw, hn, pairD_eq, List.append_assoc]
end Go.Abs
end

section
namespace Go.Abs
open Go.Proofs
set_option maxRecDepth 10000
set_option maxHeartbeats 4000000

theorem take_get {α : Type} {l : List α} {n i : Nat} {x : α} (h : (l.take n)[i]? = some x) : l[i]? = some x := by
  rw [List.getElem?_take] at h
  split at h
  · exact h
  · cases h
theorem w_sub (c : CallF) (a b : RT) (hs : a.same b = true) (ht : a.Small)
    (hO : c 36 [.dv a.dv] [] [] 0 = some (.dv (.lst (a.rg1.map (DV.int .i64))), []))
    (hR : ∀ e : RT, e.Small → c 26 [.dv e.dv] [] [] 0 = some (.dv (.lst (e.regs.map (DV.int .i64))), []))
    (hB : ∀ (acc : List (Int × Int)) (x y : List Int), x.length = y.length → x.length ≤ 100000 → acc.length ≤ 1000 → c 70 [.dv (.lst (x.map (DV.int .i64))), .dv (.lst (y.map (DV.int .i64))), .ptr 5 0] [(5, .box [.own 32 (acc.map pairD)])] [] 83 = some (.tup [], [(5, .box [.own 32 ((acc ++ bothR x y).map pairD)])]))
    (ih : ∀ x y : RT, SizeOf.sizeOf x < SizeOf.sizeOf a → x.Small → x.same y = true → c 51 [.dv x.dv, .dv y.dv] [] [] 0 = some (.dv (.lst ((x.sub y).map pairD)), [])) :
    callStep TryzG 100 c 51 [.dv a.dv, .dv b.dv] [] [] 0 = some (.dv (.lst ((a.sub b).map pairD)), []) := by
  rw [callStepW TryzG _ _ _ (G_fn 51 |>.trans Tryz.func51) rfl rfl]
  obtain ⟨h1, h2, h3⟩ := ht.inv'
  obtain ⟨e1, e2, e3, e4, e5⟩ := RT.same_inv hs
  generalize hZ : (a.rg.take 1).zip (b.rg.take 1) = Z
  generalize hZE : (a.el.take 1).zip (b.el.take 1) = ZE
  have hq : a.rg1.length ≤ 1 := by simp only [RT.rg1, List.length_take]; omega
  have hZl : Z.length = a.rg1.length := by rw [← hZ, List.length_zip, List.length_take, List.length_take, RT.rg1, List.length_take]; omega
  have hZEl : ZE.length = min 1 a.el.length := by rw [← hZE, List.length_zip, List.length_take, List.length_take]; omega
  have hZt : Z.take a.rg1.length = Z := by rw [← hZl, List.take_length]
  have hZEt : ZE.take (min 1 a.el.length) = ZE := by rw [← hZEl, List.take_length]
  rcases kcases a.k with ⟨k3, k4, k5, kr⟩ | ⟨k3, k4, k5, kr⟩ | ⟨k3, k4, k5, kr⟩ | ⟨k3, k4, k5, kr⟩
  · have hB0 := hB [] a.rg b.rg e3 (by omega) (by simp)
    simp only [List.map_nil, List.nil_append] at hB0
    simp (disch := omega) only [go_sem, reduceCtorEq, Nat.reduceLT, Nat.reduceLeDiff, Nat.reduceEqDiff, Nat.reduceAdd, Nat.reduceMul, Nat.reducePow, Nat.reduceDiv, Nat.reduceMod, Nat.reduceOr, Int.reduceLE, Int.reduceLT, Int.reduceEq, Int.reduceAdd, Int.reduceSub, Int.reduceNeg, KF51, Tryz.f51, k3, k4, k5, kr, hB0, RT.sub3 (of_eq_true k3)]
  · have hsb : a.sub b = Z ++ ZE.flatMap a.subE := by rw [RT.subRef k3 kr, hZ, hZE]
    simp (disch := omega) only [go_sem, reduceCtorEq, Nat.reduceLT, Nat.reduceLeDiff, Nat.reduceEqDiff, Nat.reduceAdd, Nat.reduceMul, Nat.reducePow, Nat.reduceDiv, Nat.reduceMod, Nat.reduceOr, Int.reduceLE, Int.reduceLT, Int.reduceEq, Int.reduceAdd, Int.reduceSub, Int.reduceNeg, KF51, Tryz.f51, k3, k4, k5, kr, hO]
    generalize hX : loopW _ _ _ _ _ _ _ _ = X
    apply loopT Z (fun i => [(18, .dv (.int .i64 (i : Nat)))]) (fun i => [(5, .box [.own 32 ((Z.take i).map pairD)])]) hX (by omega) rfl ?_ (fun i x hi hx => ?_) <;> clear hX
    · simp (disch := omega) only [go_sem, reduceCtorEq, Nat.reduceLT, Nat.reduceLeDiff, Nat.reduceEqDiff, Nat.reduceAdd, Nat.reduceMul, Nat.reducePow, Nat.reduceDiv, Nat.reduceMod, Nat.reduceOr, Int.reduceLE, Int.reduceLT, Int.reduceEq, Int.reduceAdd, Int.reduceSub, Int.reduceNeg, KF51, Tryz.f51, List.take_length, hZl, hZt]
      generalize hX : loopW _ _ _ _ _ _ _ _ = X
      apply loopT ZE (fun i => [(40, .dv (.int .i64 (i : Nat)))]) (fun i => [(5, .box [.own 32 ((Z ++ (ZE.take i).flatMap a.subE).map pairD)])]) hX (by omega) (by simp only [List.take_zero, List.flatMap_nil, List.append_nil]; rfl) ?_ (fun i x hi hx => ?_) <;> clear hX
      · simp (disch := omega) only [go_sem, reduceCtorEq, Nat.reduceLT, Nat.reduceLeDiff, Nat.reduceEqDiff, Nat.reduceAdd, Nat.reduceMul, Nat.reducePow, Nat.reduceDiv, Nat.reduceMod, Nat.reduceOr, Int.reduceLE, Int.reduceLT, Int.reduceEq, Int.reduceAdd, Int.reduceSub, Int.reduceNeg, KF51, Tryz.f51, List.take_length, hZEl, hZEt, hsb]
      · obtain rfl : i = 0 := by omega
        obtain ⟨ha, hb⟩ := zip_get (hZE ▸ hx)
        have ha := take_get ha
        have hb := take_get hb
        have hi' : ¬ min 1 a.el.length ≤ 0 := by omega
        have hxa : (a.el.map RT.dv)[0]? = some x.1.dv := by simp [ha]
        have hxb : (b.el.map RT.dv)[0]? = some x.2.dv := by simp [hb]
        have sx : x.1.same x.2 = true := by
          have := (RT.same_inv hs).2.2.2.2 x (List.mem_of_getElem? (i := 0) (by rw [List.getElem?_zip_eq_some]; exact ⟨ha, hb⟩))
          exact this
        have s1 := h3 x.1 (List.mem_of_getElem? ha)
        have s2 := s1.same sx
        have ih := ih x.1 x.2 (RT.sz' (List.mem_of_getElem? ha)) s1 sx
        have r1 := hR x.1 s1
        have r2 := hR x.2 s2
        have hw := wrapS (i := 0) (n := 100000) (by omega) (by decide)
        have htk := take_next hx
        have lr := s1.regs
        have sl := s1.sub x.2
        have hB := hB Z x.1.regs x.2.regs (RT.same_regs sx) (by omega) (by omega)
        have e1 : a.subE x = bif decide (a.k = 4) then x.1.sub x.2 else bothR x.1.regs x.2.regs := rfl
        rcases map_split (x.1.sub x.2) with hu | ⟨y, r, hu, hul⟩ <;>
          simp (disch := omega) only [go_sem, reduceCtorEq, Nat.reduceLT, Nat.reduceLeDiff, Nat.reduceEqDiff, Nat.reduceAdd, Nat.reduceMul, Nat.reducePow, Nat.reduceDiv, Nat.reduceMod, Nat.reduceOr, Int.reduceLE, Int.reduceLT, Int.reduceEq, Int.reduceAdd, Int.reduceSub, Int.reduceNeg, KF51, Tryz.f51, hi', hxa, hxb, hw, htk, ih, r1, r2, hB, k3, k4, k5, kr, e1, hu, pairD_eq, List.take_zero, List.flatMap_nil, List.flatMap_cons, List.append_nil]
    · obtain rfl : i = 0 := by omega
      obtain ⟨ha, hb⟩ := zip_get (hZ ▸ hx)
      have ha := take_get ha
      have hb := take_get hb
      have hi' : ¬ a.rg1.length ≤ 0 := by omega
      have hxa : (a.rg.map (DV.int .i64))[0]? = some (.int .i64 x.1) := by simp [ha]
      have hxb : (b.rg.map (DV.int .i64))[0]? = some (.int .i64 x.2) := by simp [hb]
      have hw := wrapS (i := 0) (n := 100000) (by omega) (by decide)
      have htk := take_next hx
      simp (disch := omega) only [go_sem, reduceCtorEq, Nat.reduceLT, Nat.reduceLeDiff, Nat.reduceEqDiff, Nat.reduceAdd, Nat.reduceMul, Nat.reducePow, Nat.reduceDiv, Nat.reduceMod, Nat.reduceOr, Int.reduceLE, Int.reduceLT, Int.reduceEq, Int.reduceAdd, Int.reduceSub, Int.reduceNeg, KF51, Tryz.f51, hi', hxa, hxb, hw, htk, pairD_eq, List.take_zero]
  · have hsb : a.sub b = Z ++ ZE.flatMap a.subE := by rw [RT.subRef k3 kr, hZ, hZE]
    simp (disch := omega) only [go_sem, reduceCtorEq, Nat.reduceLT, Nat.reduceLeDiff, Nat.reduceEqDiff, Nat.reduceAdd, Nat.reduceMul, Nat.reducePow, Nat.reduceDiv, Nat.reduceMod, Nat.reduceOr, Int.reduceLE, Int.reduceLT, Int.reduceEq, Int.reduceAdd, Int.reduceSub, Int.reduceNeg, KF51, Tryz.f51, k3, k4, k5, kr, hO]
    generalize hX : loopW _ _ _ _ _ _ _ _ = X
    apply loopT Z (fun i => [(18, .dv (.int .i64 (i : Nat)))]) (fun i => [(5, .box [.own 32 ((Z.take i).map pairD)])]) hX (by omega) rfl ?_ (fun i x hi hx => ?_) <;> clear hX
    · simp (disch := omega) only [go_sem, reduceCtorEq, Nat.reduceLT, Nat.reduceLeDiff, Nat.reduceEqDiff, Nat.reduceAdd, Nat.reduceMul, Nat.reducePow, Nat.reduceDiv, Nat.reduceMod, Nat.reduceOr, Int.reduceLE, Int.reduceLT, Int.reduceEq, Int.reduceAdd, Int.reduceSub, Int.reduceNeg, KF51, Tryz.f51, List.take_length, hZl, hZt]
      generalize hX : loopW _ _ _ _ _ _ _ _ = X
      apply loopT ZE (fun i => [(40, .dv (.int .i64 (i : Nat)))]) (fun i => [(5, .box [.own 32 ((Z ++ (ZE.take i).flatMap a.subE).map pairD)])]) hX (by omega) (by simp only [List.take_zero, List.flatMap_nil, List.append_nil]; rfl) ?_ (fun i x hi hx => ?_) <;> clear hX
      · simp (disch := omega) only [go_sem, reduceCtorEq, Nat.reduceLT, Nat.reduceLeDiff, Nat.reduceEqDiff, Nat.reduceAdd, Nat.reduceMul, Nat.reducePow, Nat.reduceDiv, Nat.reduceMod, Nat.reduceOr, Int.reduceLE, Int.reduceLT, Int.reduceEq, Int.reduceAdd, Int.reduceSub, Int.reduceNeg, KF51, Tryz.f51, List.take_length, hZEl, hZEt, hsb]
      · obtain rfl : i = 0 := by omega
        obtain ⟨ha, hb⟩ := zip_get (hZE ▸ hx)
        have ha := take_get ha
        have hb := take_get hb
        have hi' : ¬ min 1 a.el.length ≤ 0 := by omega
        have hxa : (a.el.map RT.dv)[0]? = some x.1.dv := by simp [ha]
        have hxb : (b.el.map RT.dv)[0]? = some x.2.dv := by simp [hb]
        have sx : x.1.same x.2 = true := by
          have := (RT.same_inv hs).2.2.2.2 x (List.mem_of_getElem? (i := 0) (by rw [List.getElem?_zip_eq_some]; exact ⟨ha, hb⟩))
          exact this
        have s1 := h3 x.1 (List.mem_of_getElem? ha)
        have s2 := s1.same sx
        have ih := ih x.1 x.2 (RT.sz' (List.mem_of_getElem? ha)) s1 sx
        have r1 := hR x.1 s1
        have r2 := hR x.2 s2
        have hw := wrapS (i := 0) (n := 100000) (by omega) (by decide)
        have htk := take_next hx
        have lr := s1.regs
        have sl := s1.sub x.2
        have hB := hB Z x.1.regs x.2.regs (RT.same_regs sx) (by omega) (by omega)
        have e1 : a.subE x = bif decide (a.k = 4) then x.1.sub x.2 else bothR x.1.regs x.2.regs := rfl
        rcases map_split (x.1.sub x.2) with hu | ⟨y, r, hu, hul⟩ <;>
          simp (disch := omega) only [go_sem, reduceCtorEq, Nat.reduceLT, Nat.reduceLeDiff, Nat.reduceEqDiff, Nat.reduceAdd, Nat.reduceMul, Nat.reducePow, Nat.reduceDiv, Nat.reduceMod, Nat.reduceOr, Int.reduceLE, Int.reduceLT, Int.reduceEq, Int.reduceAdd, Int.reduceSub, Int.reduceNeg, KF51, Tryz.f51, hi', hxa, hxb, hw, htk, ih, r1, r2, hB, k3, k4, k5, kr, e1, hu, pairD_eq, List.take_zero, List.flatMap_nil, List.flatMap_cons, List.append_nil]
    · obtain rfl : i = 0 := by omega
      obtain ⟨ha, hb⟩ := zip_get (hZ ▸ hx)
      have ha := take_get ha
      have hb := take_get hb
      have hi' : ¬ a.rg1.length ≤ 0 := by omega
      have hxa : (a.rg.map (DV.int .i64))[0]? = some (.int .i64 x.1) := by simp [ha]
      have hxb : (b.rg.map (DV.int .i64))[0]? = some (.int .i64 x.2) := by simp [hb]
      have hw := wrapS (i := 0) (n := 100000) (by omega) (by decide)
      have htk := take_next hx
      simp (disch := omega) only [go_sem, reduceCtorEq, Nat.reduceLT, Nat.reduceLeDiff, Nat.reduceEqDiff, Nat.reduceAdd, Nat.reduceMul, Nat.reducePow, Nat.reduceDiv, Nat.reduceMod, Nat.reduceOr, Int.reduceLE, Int.reduceLT, Int.reduceEq, Int.reduceAdd, Int.reduceSub, Int.reduceNeg, KF51, Tryz.f51, hi', hxa, hxb, hw, htk, pairD_eq, List.take_zero]
  · simp (disch := omega) only [go_sem, reduceCtorEq, Nat.reduceLT, Nat.reduceLeDiff, Nat.reduceEqDiff, Nat.reduceAdd, Nat.reduceMul, Nat.reducePow, Nat.reduceDiv, Nat.reduceMod, Nat.reduceOr, Int.reduceLE, Int.reduceLT, Int.reduceEq, Int.reduceAdd, Int.reduceSub, Int.reduceNeg, KF51, Tryz.f51, k3, k4, k5, kr, RT.subN k3 kr]
def RT.subS (a b : RT) : List (Int × Int) := bif a.same b then a.sub b else []
theorem w_SubT (c : CallF) (a b : RT) (hS : c 27 [.dv a.dv, .dv b.dv] [] [] 0 = some (.dv (.bool (a.same b)), []))
    (hs : a.same b = true → c 51 [.dv a.dv, .dv b.dv] [] [] 0 = some (.dv (.lst ((a.sub b).map pairD)), [])) (n : Nat) :
    callStep TryzG n c 32 [.dv a.dv, .dv b.dv] [] [] 0 = some (lstAV (!a.same b) 32 ((a.subS b).map pairD), []) := by
  rw [callStepW TryzG _ _ _ (G_fn 32 |>.trans Tryz.func32) rfl rfl]
  cases h : a.same b with
  | true => simp (disch := omega) only [go_sem, reduceCtorEq, Nat.reduceLT, Nat.reduceLeDiff, Nat.reduceEqDiff, Nat.reduceAdd, Nat.reduceMul, Nat.reducePow, Nat.reduceDiv, Nat.reduceMod, Nat.reduceOr, Int.reduceLE, Int.reduceLT, Int.reduceEq, Int.reduceAdd, Int.reduceSub, Int.reduceNeg, KF32, Tryz.f32, hS, hs h, h, RT.subS]
  | false => simp (disch := omega) only [go_sem, reduceCtorEq, Nat.reduceLT, Nat.reduceLeDiff, Nat.reduceEqDiff, Nat.reduceAdd, Nat.reduceMul, Nat.reducePow, Nat.reduceDiv, Nat.reduceMod, Nat.reduceOr, Int.reduceLE, Int.reduceLT, Int.reduceEq, Int.reduceAdd, Int.reduceSub, Int.reduceNeg, KF32, Tryz.f32, hS, h, RT.subS]
end Go.Abs
end

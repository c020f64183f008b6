/-
  What functions of the seat's program answer, for every input of theirs (small types, where it says so).
-/
import Derived.Test.YtjgfjfdodekkpaaGreatDoorWalkB
import Derived.Test.YtjgfjfdodekkpaaGreatDoorWalkF
set_option linter.all false

section
namespace Go.Abs
open Go.Proofs
set_option maxRecDepth 10000
set_option maxHeartbeats 4000000

theorem RT.ow3 {t : RT} (h : (t.k = 3) = True) : t.ow = t.rg := by simp [RT.ow, ownK, h]
theorem RT.owRef {t : RT} (h3 : (t.k = 3) = False) (h : isRef t.k = true) : t.ow = t.rg.take 1 := by simp [RT.ow, ownK, h3, h]
def RT.subOR (a b : RT) : Bool := !a.same b || decide (a.k = 4) && !(((a.el.take 1).zip (b.el.take 1)).flatMap fun p => p.1.sub p.2).isEmpty
theorem w_SubR (c : CallF) (a b : RT) (ht : a.Small) (hS : c 28 [.dv a.dv, .dv b.dv] [] [] 0 = some (.dv (.bool (a.same b)), []))
    (hO : ∀ t : RT, c 37 [.dv t.dv] [] [] 0 = some (t.ownAV, []))
    (hR : ∀ e : RT, e.Small → c 14 [.dv e.dv] [] [] 0 = some (.dv (.lst (e.regs.map (DV.int .i64))), []))
    (ih : ∀ x y : RT, SizeOf.sizeOf x < SizeOf.sizeOf a → x.Small → c 33 [.dv x.dv, .dv y.dv] [] [] 0 = some (lstAV (x.subOR y) 32 ((x.subS y).map pairD), [])) :
    callStep TryzG 100000 c 33 [.dv a.dv, .dv b.dv] [] [] 0 = some (lstAV (a.subOR b) 32 ((a.subS b).map pairD), []) := by
  rw [callStepW TryzG _ _ _ (G_fn 33 |>.trans Tryz.func33) rfl rfl]
  cases hs : a.same b with
  | false => simp (disch := omega) only [go_sem, reduceCtorEq, Nat.reduceLT, Nat.reduceLeDiff, Nat.reduceEqDiff, Nat.reduceAdd, Nat.reduceMul, Nat.reducePow, Nat.reduceDiv, Nat.reduceMod, Nat.reduceOr, Int.reduceLE, Int.reduceLT, Int.reduceEq, Int.reduceAdd, Int.reduceSub, Int.reduceNeg, KF33, Tryz.f33, hS, hs, RT.subS, RT.subOR]
  | true =>
    obtain ⟨h1, h2, h3⟩ := ht.inv'
    obtain ⟨e1, e2, e3, e4, e5⟩ := RT.same_inv hs
    have hOa := hO a
    have hOb := hO b
    have hol : a.ow.length = b.ow.length := by unfold RT.ow; rw [← e1]; exact ownK_same e3
    have hol2 : a.ow.length ≤ a.rg.length := ownK_length _ _
    rcases kcases a.k with ⟨k3, k4, k5, kr⟩ | ⟨k3, k4, k5, kr⟩ | ⟨k3, k4, k5, kr⟩ | ⟨k3, k4, k5, kr⟩ <;> have j3 := k3 <;> have jr := kr <;> rw [e1] at j3 jr
    · have so : a.subOR b = false := by simp [RT.subOR, hs, k4]
      have ss : a.subS b = bothR a.ow b.ow := by simp only [RT.subS, hs, cond_true, RT.sub3 (of_eq_true k3), RT.ow3 k3, RT.ow3 j3]
      simp (disch := omega) only [go_sem, reduceCtorEq, Nat.reduceLT, Nat.reduceLeDiff, Nat.reduceEqDiff, Nat.reduceAdd, Nat.reduceMul, Nat.reducePow, Nat.reduceDiv, Nat.reduceMod, Nat.reduceOr, Int.reduceLE, Int.reduceLT, Int.reduceEq, Int.reduceAdd, Int.reduceSub, Int.reduceNeg, KF33, Tryz.f33, k3, k4, k5, kr, hS, hs, hOa, hOb, RT.ownAV_ow, j3, jr, so, ss]
      generalize hX : loopW _ _ _ _ _ _ _ _ = X
      apply loopT a.ow (fun i => [(8, .dv (.int .i64 (i : Nat))), (5, .own 32 ((bothR (a.ow.take i) (b.ow.take i)).map pairD))]) (fun i => []) hX (by omega) (by simp only [List.take_zero, bothR]; rfl) ?_ (fun i u hi hu => ?_) <;> clear hX
      · simp (disch := omega) only [go_sem, reduceCtorEq, Nat.reduceLT, Nat.reduceLeDiff, Nat.reduceEqDiff, Nat.reduceAdd, Nat.reduceMul, Nat.reducePow, Nat.reduceDiv, Nat.reduceMod, Nat.reduceOr, Int.reduceLE, Int.reduceLT, Int.reduceEq, Int.reduceAdd, Int.reduceSub, Int.reduceNeg, KF33, Tryz.f33, List.take_length, show b.ow.take a.ow.length = b.ow by rw [hol, List.take_length]]
      · have hi' : ¬ a.ow.length ≤ i := by omega
        have hx' : (a.ow.map (DV.int .i64))[i]? = some (.int .i64 u) := by simp [hu]
        obtain ⟨v, hv⟩ : ∃ v, b.ow[i]? = some v := ⟨b.ow[i], by simp [show i < b.ow.length by omega]⟩
        have hy' : (b.ow.map (DV.int .i64))[i]? = some (.int .i64 v) := by simp [hv]
        have hw := wrapS (i := i) (n := 100000) (by omega) (by decide)
        have hn := bothR_next hu hv
        have b1 := bothR_length (a.ow.take i) (b.ow.take i)
        have b2 : (a.ow.take i).length ≤ 100 := by simp only [List.length_take]; omega
        simp (disch := omega) only [go_sem, reduceCtorEq, Nat.reduceLT, Nat.reduceLeDiff, Nat.reduceEqDiff, Nat.reduceAdd, Nat.reduceMul, Nat.reducePow, Nat.reduceDiv, Nat.reduceMod, Nat.reduceOr, Int.reduceLE, Int.reduceLT, Int.reduceEq, Int.reduceAdd, Int.reduceSub, Int.reduceNeg, KF33, Tryz.f33, hi', hx', hy', hw, hn, pairD_eq]
    · generalize hZ : a.ow.zip b.ow = Z
      have oa := RT.owRef k3 kr
      have ob := RT.owRef j3 jr
      have hoq : a.ow.length ≤ 1 := by rw [oa, List.length_take]; omega
      have hZl : Z.length = a.ow.length := by rw [← hZ, List.length_zip]; omega
      have hZt : Z.take a.ow.length = Z := by rw [← hZl, List.take_length]
      have hZm : List.take a.ow.length (List.map pairD Z) = List.map pairD Z := by rw [← hZl, takeMapW]
      simp (disch := omega) only [go_sem, reduceCtorEq, Nat.reduceLT, Nat.reduceLeDiff, Nat.reduceEqDiff, Nat.reduceAdd, Nat.reduceMul, Nat.reducePow, Nat.reduceDiv, Nat.reduceMod, Nat.reduceOr, Int.reduceLE, Int.reduceLT, Int.reduceEq, Int.reduceAdd, Int.reduceSub, Int.reduceNeg, KF33, Tryz.f33, k3, k4, k5, kr, hS, hs, hOa, hOb, RT.ownAV_ow, j3, jr]
      generalize hX : loopW _ _ _ _ _ _ _ _ = X
      apply loopT Z (fun i => [(9, .dv (.int .i64 (i : Nat))), (5, .own 32 ((Z.take i).map pairD))]) (fun i => []) hX (by omega) rfl ?_ (fun i x hi hx => ?_) <;> clear hX
      rotate_left
      · obtain ⟨ha, hb⟩ := zip_get (hZ ▸ hx)
        have hi' : ¬ a.ow.length ≤ i := by omega
        have hxa : (a.ow.map (DV.int .i64))[i]? = some (.int .i64 x.1) := by simp [ha]
        have hxb : (b.ow.map (DV.int .i64))[i]? = some (.int .i64 x.2) := by simp [hb]
        have hw := wrapS (i := i) (n := 100000) (by omega) (by decide)
        have htk := take_next hx
        have b3 : (Z.take i).length ≤ 1 := by simp only [List.length_take]; omega
        simp (disch := omega) only [go_sem, reduceCtorEq, Nat.reduceLT, Nat.reduceLeDiff, Nat.reduceEqDiff, Nat.reduceAdd, Nat.reduceMul, Nat.reducePow, Nat.reduceDiv, Nat.reduceMod, Nat.reduceOr, Int.reduceLE, Int.reduceLT, Int.reduceEq, Int.reduceAdd, Int.reduceSub, Int.reduceNeg, KF33, Tryz.f33, hi', hxa, hxb, hw, htk, pairD_eq]
      rcases map_split a.el with hel | ⟨e, l, hel, l0⟩
      · have l0 : a.el.length = 0 := by rw [hel]; rfl
        have so : a.subOR b = false := by simp [RT.subOR, hs, hel]
        have ss : a.subS b = Z := by simp only [RT.subS, hs, cond_true, RT.subRef k3 kr, hel, ← hZ, oa, ob, List.take_nil, List.zip_nil_left, List.flatMap_nil, List.append_nil]
        simp (disch := omega) only [go_sem, reduceCtorEq, Nat.reduceLT, Nat.reduceLeDiff, Nat.reduceEqDiff, Nat.reduceAdd, Nat.reduceMul, Nat.reducePow, Nat.reduceDiv, Nat.reduceMod, Nat.reduceOr, Int.reduceLE, Int.reduceLT, Int.reduceEq, Int.reduceAdd, Int.reduceSub, Int.reduceNeg, KF33, Tryz.f33, List.take_length, hZl, hZt, hZm, l0, so, ss]
      · rcases map_split b.el with hbl | ⟨e', l', hbl, l1⟩
        · rw [hbl, hel] at e4; simp at e4
        · have he : e ∈ a.el := by rw [hel]; simp
          have se : e.same e' = true := e5 (e, e') (by rw [hel, hbl]; simp)
          have s1 := h3 e he
          have ih := ih e e' (RT.sz' he) s1
          have g0 : (a.el.map RT.dv)[0]? = some e.dv := by rw [hel]; rfl
          have g1 : (b.el.map RT.dv)[0]? = some e'.dv := by rw [hbl]; rfl
          have sl := s1.sub e'
          have so : a.subOR b = !(e.sub e').isEmpty := by simp [RT.subOR, hs, hel, hbl, k4]
          have ss : a.subS b = Z ++ e.sub e' := by simp only [RT.subS, hs, cond_true, RT.subRef k3 kr, hel, hbl, ← hZ, oa, ob, List.take_succ_cons, List.take_zero, List.zip_cons_cons, List.zip_nil_left, List.flatMap_cons, List.flatMap_nil, List.append_nil, RT.subE, k4, decide_true]
          have si : e.subS e' = e.sub e' := by simp only [RT.subS, se, cond_true]
          rcases map_split (e.sub e') with hu | ⟨y, r, hu, hul⟩ <;> cases ho : e.subOR e' <;>
            simp (disch := omega) only [go_sem, reduceCtorEq, Nat.reduceLT, Nat.reduceLeDiff, Nat.reduceEqDiff, Nat.reduceAdd, Nat.reduceMul, Nat.reducePow, Nat.reduceDiv, Nat.reduceMod, Nat.reduceOr, Int.reduceLE, Int.reduceLT, Int.reduceEq, Int.reduceAdd, Int.reduceSub, Int.reduceNeg, KF33, Tryz.f33, List.take_length, hZl, hZt, hZm, l0, so, ss, si, ih, ho, hu, g0, g1, k3, k4, k5, pairD_eq, List.isEmpty_nil, List.isEmpty_cons, List.append_nil]
    · generalize hZ : a.ow.zip b.ow = Z
      have oa := RT.owRef k3 kr
      have ob := RT.owRef j3 jr
      have hoq : a.ow.length ≤ 1 := by rw [oa, List.length_take]; omega
      have hZl : Z.length = a.ow.length := by rw [← hZ, List.length_zip]; omega
      have hZt : Z.take a.ow.length = Z := by rw [← hZl, List.take_length]
      have hZm : List.take a.ow.length (List.map pairD Z) = List.map pairD Z := by rw [← hZl, takeMapW]
      have so : a.subOR b = false := by simp [RT.subOR, hs, k4]
      simp (disch := omega) only [go_sem, reduceCtorEq, Nat.reduceLT, Nat.reduceLeDiff, Nat.reduceEqDiff, Nat.reduceAdd, Nat.reduceMul, Nat.reducePow, Nat.reduceDiv, Nat.reduceMod, Nat.reduceOr, Int.reduceLE, Int.reduceLT, Int.reduceEq, Int.reduceAdd, Int.reduceSub, Int.reduceNeg, KF33, Tryz.f33, k3, k4, k5, kr, hS, hs, hOa, hOb, RT.ownAV_ow, j3, jr]
      generalize hX : loopW _ _ _ _ _ _ _ _ = X
      apply loopT Z (fun i => [(9, .dv (.int .i64 (i : Nat))), (5, .own 32 ((Z.take i).map pairD))]) (fun i => []) hX (by omega) rfl ?_ (fun i x hi hx => ?_) <;> clear hX
      rotate_left
      · obtain ⟨ha, hb⟩ := zip_get (hZ ▸ hx)
        have hi' : ¬ a.ow.length ≤ i := by omega
        have hxa : (a.ow.map (DV.int .i64))[i]? = some (.int .i64 x.1) := by simp [ha]
        have hxb : (b.ow.map (DV.int .i64))[i]? = some (.int .i64 x.2) := by simp [hb]
        have hw := wrapS (i := i) (n := 100000) (by omega) (by decide)
        have htk := take_next hx
        have b3 : (Z.take i).length ≤ 1 := by simp only [List.length_take]; omega
        simp (disch := omega) only [go_sem, reduceCtorEq, Nat.reduceLT, Nat.reduceLeDiff, Nat.reduceEqDiff, Nat.reduceAdd, Nat.reduceMul, Nat.reducePow, Nat.reduceDiv, Nat.reduceMod, Nat.reduceOr, Int.reduceLE, Int.reduceLT, Int.reduceEq, Int.reduceAdd, Int.reduceSub, Int.reduceNeg, KF33, Tryz.f33, hi', hxa, hxb, hw, htk, pairD_eq]
      rcases map_split a.el with hel | ⟨e, l, hel, l0⟩
      · have l0 : a.el.length = 0 := by rw [hel]; rfl
        have ss : a.subS b = Z := by simp only [RT.subS, hs, cond_true, RT.subRef k3 kr, hel, ← hZ, oa, ob, List.take_nil, List.zip_nil_left, List.flatMap_nil, List.append_nil]
        simp (disch := omega) only [go_sem, reduceCtorEq, Nat.reduceLT, Nat.reduceLeDiff, Nat.reduceEqDiff, Nat.reduceAdd, Nat.reduceMul, Nat.reducePow, Nat.reduceDiv, Nat.reduceMod, Nat.reduceOr, Int.reduceLE, Int.reduceLT, Int.reduceEq, Int.reduceAdd, Int.reduceSub, Int.reduceNeg, KF33, Tryz.f33, List.take_length, hZl, hZt, hZm, l0, so, ss]
      · rcases map_split b.el with hbl | ⟨e', l', hbl, l1⟩
        · rw [hbl, hel] at e4; simp at e4
        · have he : e ∈ a.el := by rw [hel]; simp
          have se : e.same e' = true := e5 (e, e') (by rw [hel, hbl]; simp)
          have s1 := h3 e he
          have r1 := hR e s1
          have r2 := hR e' (s1.same se)
          have rl := RT.same_regs se
          have rb := s1.regs
          have g0 : (a.el.map RT.dv)[0]? = some e.dv := by rw [hel]; rfl
          have g1 : (b.el.map RT.dv)[0]? = some e'.dv := by rw [hbl]; rfl
          have ss : a.subS b = Z ++ bothR e.regs e'.regs := by simp only [RT.subS, hs, cond_true, RT.subRef k3 kr, hel, hbl, ← hZ, oa, ob, List.take_succ_cons, List.take_zero, List.zip_cons_cons, List.zip_nil_left, List.flatMap_cons, List.flatMap_nil, List.append_nil, RT.subE, k4, decide_false, cond_false]
          simp (disch := omega) only [go_sem, reduceCtorEq, Nat.reduceLT, Nat.reduceLeDiff, Nat.reduceEqDiff, Nat.reduceAdd, Nat.reduceMul, Nat.reducePow, Nat.reduceDiv, Nat.reduceMod, Nat.reduceOr, Int.reduceLE, Int.reduceLT, Int.reduceEq, Int.reduceAdd, Int.reduceSub, Int.reduceNeg, KF33, Tryz.f33, List.take_length, hZl, hZt, hZm, l0, so, ss, g0, g1, r1, r2, k3, k4, k5]
          generalize hX : loopW _ _ _ _ _ _ _ _ = X
          apply loopT e.regs (fun i => [(12, .dv (.int .i64 (i : Nat))), (5, .own 32 ((Z ++ bothR (e.regs.take i) (e'.regs.take i)).map pairD))]) (fun i => []) hX (by omega) (by simp only [List.take_zero, bothR, List.append_nil]; rfl) ?_ (fun i u hi hu => ?_) <;> clear hX
          · simp (disch := omega) only [go_sem, reduceCtorEq, Nat.reduceLT, Nat.reduceLeDiff, Nat.reduceEqDiff, Nat.reduceAdd, Nat.reduceMul, Nat.reducePow, Nat.reduceDiv, Nat.reduceMod, Nat.reduceOr, Int.reduceLE, Int.reduceLT, Int.reduceEq, Int.reduceAdd, Int.reduceSub, Int.reduceNeg, KF33, Tryz.f33, List.take_length, show e'.regs.take e.regs.length = e'.regs by rw [rl, List.take_length]]
          · have hi' : ¬ e.regs.length ≤ i := by omega
            have hi2 : ¬ e'.regs.length ≤ i := by omega
            have hx' : (e.regs.map (DV.int .i64))[i]? = some (.int .i64 u) := by simp [hu]
            obtain ⟨v, hv⟩ : ∃ v, e'.regs[i]? = some v := ⟨e'.regs[i], by simp [show i < e'.regs.length by omega]⟩
            have hy' : (e'.regs.map (DV.int .i64))[i]? = some (.int .i64 v) := by simp [hv]
            have hw := wrapS (i := i) (n := 100000) (by omega) (by decide)
            have hn := bothR_next hu hv
            have b1 := bothR_length (e.regs.take i) (e'.regs.take i)
            have b2 : (e.regs.take i).length ≤ 70000 := by simp only [List.length_take]; omega
            have b4 : (List.map pairD Z ++ List.map pairD (bothR (e.regs.take i) (e'.regs.take i))).length ≤ 201000 := by simp only [List.length_append, List.length_map]; omega
            simp (disch := omega) only [go_sem, reduceCtorEq, Nat.reduceLT, Nat.reduceLeDiff, Nat.reduceEqDiff, Nat.reduceAdd, Nat.reduceMul, Nat.reducePow, Nat.reduceDiv, Nat.reduceMod, Nat.reduceOr, Int.reduceLE, Int.reduceLT, Int.reduceEq, Int.reduceAdd, Int.reduceSub, Int.reduceNeg, KF33, Tryz.f33, hi', hi2, hx', hy', hw, hn, pairD_eq, List.append_assoc]
    · have so : a.subOR b = false := by simp [RT.subOR, hs, k4]
      have ss : a.subS b = [] := by simp only [RT.subS, hs, cond_true, RT.subN k3 kr]
      simp (disch := omega) only [go_sem, reduceCtorEq, Nat.reduceLT, Nat.reduceLeDiff, Nat.reduceEqDiff, Nat.reduceAdd, Nat.reduceMul, Nat.reducePow, Nat.reduceDiv, Nat.reduceMod, Nat.reduceOr, Int.reduceLE, Int.reduceLT, Int.reduceEq, Int.reduceAdd, Int.reduceSub, Int.reduceNeg, KF33, Tryz.f33, k3, k4, k5, kr, hS, hs, hOa, hOb, RT.ownAV_ow, j3, jr, so, ss]
end Go.Abs
end

section
namespace Go.Abs
open Go.Proofs
set_option maxRecDepth 10000
set_option maxHeartbeats 8000000

theorem RT.small60 {t : RT} {m : Nat} (hm : m ≤ 1000) (h : t.deep m = false) : t.Small := ⟨m, hm, h⟩

theorem law_Sub (c : CallF) (t u : RT) (m : List Int)
    (hD : ∀ t : RT, c 10 [.dv t.dv, .dv (.int .i64 60)] [] [] 0 = some (.dv (.bool (t.deep 60)), []))
    (hT : c 12 [] [] [] 0 = some (.dv (.bool true), []))
    (hM : ∀ t : RT, t.Small → c 20 [.dv t.dv, .dv (.lst (m.map (DV.int .i64)))] [] [] 0 = some (.dv (t.subst m).dv, []))
    (hS : ∀ a b : RT, a.Small → c 32 [.dv a.dv, .dv b.dv] [] [] 0 = some (lstAV (!a.same b) 32 ((a.subS b).map pairD), []))
    (hR : ∀ a b : RT, a.Small → c 33 [.dv a.dv, .dv b.dv] [] [] 0 = some (lstAV (a.subOR b) 32 ((a.subS b).map pairD), []))
    (hP : ∀ l : List (Int × Int), l.length ≤ maxLen → c 31 [.dv (.lst (l.map pairD)), .dv (.lst (l.map pairD))] [] [] 0 = some (.dv (.bool true), []))
    (hW : ∀ t : RT, t.Small → c 13 [.dv t.dv] [] [] 0 = some (lstAV t.wellO 32 (t.wells.map pairD), []))
    (hV : ∀ t : RT, t.Small → c 34 [.dv t.dv] [] [] 0 = some (lstAV t.wellOR 32 (t.wells.map pairD), [])) :
    callStep TryzG 100 c 6 [.dv t.dv, .dv u.dv, .dv (.lst (m.map (DV.int .i64)))] [] [] 0 = some (.dv (.bool true), []) := by
  rw [callStepW TryzG _ _ _ (G_fn 6 |>.trans Tryz.func6) rfl rfl]
  cases ht : t.deep 60 with
  | true => simp (disch := omega) only [go_sem, reduceCtorEq, Nat.reduceLT, Nat.reduceLeDiff, Nat.reduceEqDiff, Nat.reduceAdd, Nat.reduceMul, Nat.reducePow, Nat.reduceDiv, Nat.reduceMod, Nat.reduceOr, Int.reduceLE, Int.reduceLT, Int.reduceEq, Int.reduceAdd, Int.reduceSub, Int.reduceNeg, KF6, Tryz.f6, hD, hT, ht]
  | false =>
    cases hu : u.deep 60 with
    | true => simp (disch := omega) only [go_sem, reduceCtorEq, Nat.reduceLT, Nat.reduceLeDiff, Nat.reduceEqDiff, Nat.reduceAdd, Nat.reduceMul, Nat.reducePow, Nat.reduceDiv, Nat.reduceMod, Nat.reduceOr, Int.reduceLE, Int.reduceLT, Int.reduceEq, Int.reduceAdd, Int.reduceSub, Int.reduceNeg, KF6, Tryz.f6, hD, hT, ht, hu]
    | false =>
      by_cases hm : m.length ≤ 70
      · have st := RT.small60 (by omega) ht
        have hM := hM t st
        have hP1 := hP t.wells (Nat.le_trans st.wells (by decide))
        have hW := hW t st
        have hV := hV t st
        simp (disch := omega) only [go_sem, reduceCtorEq, Nat.reduceLT, Nat.reduceLeDiff, Nat.reduceEqDiff, Nat.reduceAdd, Nat.reduceMul, Nat.reducePow, Nat.reduceDiv, Nat.reduceMod, Nat.reduceOr, Int.reduceLE, Int.reduceLT, Int.reduceEq, Int.reduceAdd, Int.reduceSub, Int.reduceNeg, KF6, Tryz.f6, hD, hT, ht, hu, hm, hM]
        generalize hX : loopW _ _ _ _ _ _ _ _ = X
        apply loopT [u, t.subst m] (fun i => [(27, .dv (.int .i64 (i : Nat)))]) (fun i => []) hX (by simp) rfl ?_ (fun i x hi hx => ?_) <;> clear hX
        · cases h1 : t.wellO <;> cases h2 : t.wellOR <;> simp (disch := omega) only [go_sem, reduceCtorEq, Nat.reduceLT, Nat.reduceLeDiff, Nat.reduceEqDiff, Nat.reduceAdd, Nat.reduceMul, Nat.reducePow, Nat.reduceDiv, Nat.reduceMod, Nat.reduceOr, Int.reduceLE, Int.reduceLT, Int.reduceEq, Int.reduceAdd, Int.reduceSub, Int.reduceNeg, KF6, Tryz.f6, hT, hP1, hW, hV, h1, h2]
        · have hi0 : i < 2 := hi
          have hi' : ¬ 2 ≤ i := by omega
          have hx' : [u.dv, (t.subst m).dv][i]? = some x.dv := by
            have : i = 0 ∨ i = 1 := by omega
            rcases this with rfl | rfl <;> simp at hx ⊢ <;> rw [hx]
          have hw := wrapS (i := i) (n := 100000) (by omega) (by decide)
          have s1 := hS t x st
          have s2 := hR t x st
          have hsl : (t.subS x).length ≤ 210000 := by
            unfold RT.subS
            cases t.same x
            · simp
            · exact st.sub x
          have hP2 := hP (t.subS x) (Nat.le_trans hsl (by decide))
          cases h1 : t.same x <;> cases h2 : t.subOR x <;> rw [h1] at s1 <;> rw [h2] at s2 <;> simp only [Bool.not_true, Bool.not_false, lstAV_t, lstAV_f] at s1 s2 <;>
            simp (disch := omega) only [go_sem, reduceCtorEq, Nat.reduceLT, Nat.reduceLeDiff, Nat.reduceEqDiff, Nat.reduceAdd, Nat.reduceMul, Nat.reducePow, Nat.reduceDiv, Nat.reduceMod, Nat.reduceOr, Int.reduceLE, Int.reduceLT, Int.reduceEq, Int.reduceAdd, Int.reduceSub, Int.reduceNeg, KF6, Tryz.f6, hi', hx', hw, s1, s2, hP2]
      · simp (disch := omega) only [go_sem, reduceCtorEq, Nat.reduceLT, Nat.reduceLeDiff, Nat.reduceEqDiff, Nat.reduceAdd, Nat.reduceMul, Nat.reducePow, Nat.reduceDiv, Nat.reduceMod, Nat.reduceOr, Int.reduceLE, Int.reduceLT, Int.reduceEq, Int.reduceAdd, Int.reduceSub, Int.reduceNeg, KF6, Tryz.f6, hD, hT, ht, hu, hm]

theorem law_Well (c : CallF) (t : RT)
    (hD : ∀ t : RT, c 10 [.dv t.dv, .dv (.int .i64 20)] [] [] 0 = some (.dv (.bool (t.deep 20)), []))
    (hPl : ∀ t : RT, c 11 [.dv t.dv] [] [] 0 = some (.dv (.bool t.plain), []))
    (hT : c 12 [] [] [] 0 = some (.dv (.bool true), [])) :
    t.deep 20 = true ∨ t.plain = false → callStep TryzG 100 c 3 [.dv t.dv] [] [] 0 = some (.dv (.bool true), []) := by
  intro h
  rw [callStepW TryzG _ _ _ (G_fn 3 |>.trans Tryz.func3) rfl rfl]
  cases ht : t.deep 20 with
  | true => simp (disch := omega) only [go_sem, reduceCtorEq, Nat.reduceLT, Nat.reduceLeDiff, Nat.reduceEqDiff, Nat.reduceAdd, Nat.reduceMul, Nat.reducePow, Nat.reduceDiv, Nat.reduceMod, Nat.reduceOr, Int.reduceLE, Int.reduceLT, Int.reduceEq, Int.reduceAdd, Int.reduceSub, Int.reduceNeg, KF3, Tryz.f3, hD, hT, ht]
  | false =>
    have hp : t.plain = false := by rcases h with h | h; · rw [ht] at h; cases h
                                    · exact h
    simp (disch := omega) only [go_sem, reduceCtorEq, Nat.reduceLT, Nat.reduceLeDiff, Nat.reduceEqDiff, Nat.reduceAdd, Nat.reduceMul, Nat.reducePow, Nat.reduceDiv, Nat.reduceMod, Nat.reduceOr, Int.reduceLE, Int.reduceLT, Int.reduceEq, Int.reduceAdd, Int.reduceSub, Int.reduceNeg, KF3, Tryz.f3, hD, hT, ht, hPl, hp]
end Go.Abs
end

/-
  What functions of the seat's program answer, for every input of theirs (small types, where it says so).
-/
import Derived.Test.YtjgfjfdodekkpaaGreatDoorWalkB
set_option linter.all false

section
namespace Go.Abs
open Go.Proofs
set_option maxRecDepth 10000
set_option maxHeartbeats 8000000

theorem wellOf_r (q : List Int) (r0 : Int) : wellOf q [r0] = q.map fun x => (x, r0) := by
  induction q with
  | nil => rfl
  | cons x q ih => simp [wellOf] at ih ⊢; exact ih
theorem eq_pairs (a b c d : Int) : ((a == b) && (c == d)) = decide (a = b ∧ c = d) := by
  by_cases h1 : a = b <;> by_cases h2 : c = d <;> simp [h1, h2]
theorem law_Well2 (c : CallF) (t : RT)
    (hD : ∀ t : RT, c 10 [.dv t.dv, .dv (.int .i64 20)] [] [] 0 = some (.dv (.bool (t.deep 20)), []))
    (hPl : ∀ t : RT, c 11 [.dv t.dv] [] [] 0 = some (.dv (.bool t.plain), []))
    (hT : c 12 [] [] [] 0 = some (.dv (.bool true), []))
    (hW : ∀ t : RT, t.Small → c 13 [.dv t.dv] [] [] 0 = some (lstAV t.wellO 32 (t.wells.map pairD), []))
    (hR : ∀ t : RT, t.Small → c 14 [.dv t.dv] [] [] 0 = some (.dv (.lst (t.regs.map (DV.int .i64))), []))
    (ht : t.deep 20 = false) (htp : t.plain = true) :
    callStep TryzG (SizeOf.sizeOf t + 70001) c 3 [.dv t.dv] [] [] 0 = some (.dv (.bool true), []) := by
  rw [callStepW TryzG _ _ _ (G_fn 3 |>.trans Tryz.func3) rfl rfl]
  have st : t.Small := ⟨20, by omega, ht⟩
  have hW := hW t st
  generalize hl0 : t.wells = l at hW
  have swl : l.length ≤ 70000000 := by rw [← hl0]; exact st.wells
  have main : ∀ b, t.wellO = b → True := fun _ _ => trivial
  cases ho : t.wellO <;> rw [ho] at hW <;> simp only [lstAV_t, lstAV_f] at hW <;> simp (disch := omega) only [go_sem, reduceCtorEq, Nat.reduceLT, Nat.reduceLeDiff, Nat.reduceEqDiff, Nat.reduceAdd, Nat.reduceMul, Nat.reducePow, Nat.reduceDiv, Nat.reduceMod, Nat.reduceOr, Int.reduceLE, Int.reduceLT, Int.reduceEq, Int.reduceAdd, Int.reduceSub, Int.reduceNeg, KF3, Tryz.f3, hD, hT, hW, hPl, ht, htp]
  all_goals
    generalize hX : loopW _ _ _ _ _ _ _ _ = X
  · apply loopW_wf (fun (s : RT × List (Int × Int)) => ⟨[(3, .dv (.lst (l.map pairD))), (4, .dv (.int .i64 (s.2.length : Nat))), (5, .ptr 5 0)], [(5, .box [.dv (.int .i64 s.1.k), .dv (.str s.1.n), .dv (.lst (s.1.rg.map (DV.int .i64))), .dv (.lst (s.1.el.map RT.dv))])], []⟩)
      (fun s => s.1.Small ∧ s.1.plain = true ∧ l = s.2 ++ s.1.wells) (fun s => SizeOf.sizeOf s.1) (t, []) hX rfl ⟨st, htp, by simp [hl0]⟩ (by show SizeOf.sizeOf t < _; omega) (fun s hs => ?_)
    clear hX
    obtain ⟨x, pre⟩ := s
    obtain ⟨sx, hp, hl⟩ := hs
    simp only at sx hp hl
    rcases map_split x.el with hel | ⟨e, l', hel, l0⟩
    · have l0 : x.el.length = 0 := by rw [hel]; rfl
      have hn : pre.length = l.length := by rw [hl, RT.wells_nil hel]; simp
      rcases kcases x.k with ⟨k3, k4, k5, kr⟩ | ⟨k3, k4, k5, kr⟩ | ⟨k3, k4, k5, kr⟩ | ⟨k3, k4, k5, kr⟩ <;> simp (disch := omega) only [go_sem, reduceCtorEq, Nat.reduceLT, Nat.reduceLeDiff, Nat.reduceEqDiff, Nat.reduceAdd, Nat.reduceMul, Nat.reducePow, Nat.reduceDiv, Nat.reduceMod, Nat.reduceOr, Int.reduceLE, Int.reduceLT, Int.reduceEq, Int.reduceAdd, Int.reduceSub, Int.reduceNeg, KF3, Tryz.f3, k3, k4, k5, kr, l0, hT, hn]
    · rcases kcases x.k with ⟨k3, k4, k5, kr⟩ | ⟨k3, k4, k5, kr⟩ | ⟨k3, k4, k5, kr⟩ | ⟨k3, k4, k5, kr⟩
      · have hn : pre.length = l.length := by rw [hl, RT.wells_cons hel, kr]; simp
        simp (disch := omega) only [go_sem, reduceCtorEq, Nat.reduceLT, Nat.reduceLeDiff, Nat.reduceEqDiff, Nat.reduceAdd, Nat.reduceMul, Nat.reducePow, Nat.reduceDiv, Nat.reduceMod, Nat.reduceOr, Int.reduceLE, Int.reduceLT, Int.reduceEq, Int.reduceAdd, Int.reduceSub, Int.reduceNeg, KF3, Tryz.f3, k3, k4, k5, kr, hT, hn]
      · have hrl : x.rg.length = 1 := by
          have := RT.plain_cons hel
          rw [this] at hp
          simp only [kr, Bool.and_eq_true, Bool.not_eq_true', Bool.or_eq_false_iff, Bool.and_eq_false_iff, Bool.not_eq_false', decide_eq_true_eq, Bool.true_and] at hp
          omega
        have hll : l' = [] := by
          have := RT.plain_cons hel
          rw [this] at hp
          simp only [kr, Bool.and_eq_true, Bool.not_eq_true', Bool.or_eq_false_iff, decide_eq_false_iff_not] at hp
          have := hp.1.2
          exact List.length_eq_zero_iff.1 (by omega)
        have hpe : e.plain = true := by
          have := RT.plain_cons hel
          rw [this] at hp
          simp only [Bool.and_eq_true] at hp
          exact hp.2
        obtain ⟨r0, hr0⟩ : ∃ r0, x.rg = [r0] := by
          match hh : x.rg, hrl with
          | [r0], _ => exact ⟨r0, rfl⟩
        have he : e ∈ x.el := by rw [hel]; simp
        have se := sx.inv'.2.2 e he
        have hR := hR e se
        have g0 : (x.el.map RT.dv)[0]? = some e.dv := by rw [hel]; rfl
        have g1 : (x.rg.map (DV.int .i64))[0]? = some (.int .i64 r0) := by rw [hr0]; rfl
        have l1 : (x.el.length = 1) = True := by rw [hel, hll]; simp
        have hww : l = pre ++ ((e.regs.map fun y => (y, r0)) ++ e.wells) := by rw [hl, RT.wells_cons hel, kr, cond_true, hr0, wellOf_r]
        have hlen : l.length = pre.length + (e.regs.length + e.wells.length) := by rw [hww]; simp
        have erl := se.regs
        simp (disch := omega) only [go_sem, reduceCtorEq, Nat.reduceLT, Nat.reduceLeDiff, Nat.reduceEqDiff, Nat.reduceAdd, Nat.reduceMul, Nat.reducePow, Nat.reduceDiv, Nat.reduceMod, Nat.reduceOr, Int.reduceLE, Int.reduceLT, Int.reduceEq, Int.reduceAdd, Int.reduceSub, Int.reduceNeg, KF3, Tryz.f3, k3, k4, k5, kr, l1, g0, hR]
        generalize hX : loopW _ _ _ _ _ _ _ _ = X
        apply loopT e.regs (fun i => [(7, .dv (.int .i64 (i : Nat))), (4, .dv (.int .i64 ((pre.length + i : Nat) : Int)))]) (fun i => []) hX (by omega) rfl ?_ (fun i y hi hy => ?_) <;> clear hX
        · simp (disch := omega) only [go_sem, reduceCtorEq, Nat.reduceLT, Nat.reduceLeDiff, Nat.reduceEqDiff, Nat.reduceAdd, Nat.reduceMul, Nat.reducePow, Nat.reduceDiv, Nat.reduceMod, Nat.reduceOr, Int.reduceLE, Int.reduceLT, Int.reduceEq, Int.reduceAdd, Int.reduceSub, Int.reduceNeg, KF3, Tryz.f3, g0, Nat.add_assoc]
          refine ⟨(e, pre ++ e.regs.map fun y => (y, r0)), ?_, ⟨se, hpe, by simp [hww]⟩, RT.sz' he⟩
          simp only [List.length_append, List.length_map]
        · have hi' : ¬ e.regs.length ≤ i := by omega
          have hy' : (e.regs.map (DV.int .i64))[i]? = some (.int .i64 y) := by simp [hy]
          have hn : ¬ l.length ≤ pre.length + i := by omega
          have hp' : (l.map pairD)[pre.length + i]? = some (pairD (y, r0)) := by
            rw [List.getElem?_map, hww, List.getElem?_append_right (by omega), show pre.length + i - pre.length = i by omega, List.getElem?_append_left (by simpa using hi)]
            simp [hy]
          have hw1 := wrapS (i := i) (n := 70000) (by omega) (by decide)
          have hw2 := wrapS (i := pre.length + i) (n := 70070000) (by omega) (by decide)
          simp (disch := omega) only [go_sem, reduceCtorEq, Nat.reduceLT, Nat.reduceLeDiff, Nat.reduceEqDiff, Nat.reduceAdd, Nat.reduceMul, Nat.reducePow, Nat.reduceDiv, Nat.reduceMod, Nat.reduceOr, Int.reduceLE, Int.reduceLT, Int.reduceEq, Int.reduceAdd, Int.reduceSub, Int.reduceNeg, KF3, Tryz.f3, hi', hy', hn, hp', g1, hw1, hw2, pairD_eq, Nat.add_assoc]
      · have hrl : x.rg.length = 1 := by
          have := RT.plain_cons hel
          rw [this] at hp
          simp only [kr, Bool.and_eq_true, Bool.not_eq_true', Bool.or_eq_false_iff, Bool.and_eq_false_iff, Bool.not_eq_false', decide_eq_true_eq, Bool.true_and] at hp
          omega
        have hll : l' = [] := by
          have := RT.plain_cons hel
          rw [this] at hp
          simp only [kr, Bool.and_eq_true, Bool.not_eq_true', Bool.or_eq_false_iff, decide_eq_false_iff_not] at hp
          have := hp.1.2
          exact List.length_eq_zero_iff.1 (by omega)
        have hpe : e.plain = true := by
          have := RT.plain_cons hel
          rw [this] at hp
          simp only [Bool.and_eq_true] at hp
          exact hp.2
        obtain ⟨r0, hr0⟩ : ∃ r0, x.rg = [r0] := by
          match hh : x.rg, hrl with
          | [r0], _ => exact ⟨r0, rfl⟩
        have he : e ∈ x.el := by rw [hel]; simp
        have se := sx.inv'.2.2 e he
        have hR := hR e se
        have g0 : (x.el.map RT.dv)[0]? = some e.dv := by rw [hel]; rfl
        have g1 : (x.rg.map (DV.int .i64))[0]? = some (.int .i64 r0) := by rw [hr0]; rfl
        have l1 : (x.el.length = 1) = True := by rw [hel, hll]; simp
        have hww : l = pre ++ ((e.regs.map fun y => (y, r0)) ++ e.wells) := by rw [hl, RT.wells_cons hel, kr, cond_true, hr0, wellOf_r]
        have hlen : l.length = pre.length + (e.regs.length + e.wells.length) := by rw [hww]; simp
        have erl := se.regs
        simp (disch := omega) only [go_sem, reduceCtorEq, Nat.reduceLT, Nat.reduceLeDiff, Nat.reduceEqDiff, Nat.reduceAdd, Nat.reduceMul, Nat.reducePow, Nat.reduceDiv, Nat.reduceMod, Nat.reduceOr, Int.reduceLE, Int.reduceLT, Int.reduceEq, Int.reduceAdd, Int.reduceSub, Int.reduceNeg, KF3, Tryz.f3, k3, k4, k5, kr, l1, g0, hR]
        generalize hX : loopW _ _ _ _ _ _ _ _ = X
        apply loopT e.regs (fun i => [(7, .dv (.int .i64 (i : Nat))), (4, .dv (.int .i64 ((pre.length + i : Nat) : Int)))]) (fun i => []) hX (by omega) rfl ?_ (fun i y hi hy => ?_) <;> clear hX
        · simp (disch := omega) only [go_sem, reduceCtorEq, Nat.reduceLT, Nat.reduceLeDiff, Nat.reduceEqDiff, Nat.reduceAdd, Nat.reduceMul, Nat.reducePow, Nat.reduceDiv, Nat.reduceMod, Nat.reduceOr, Int.reduceLE, Int.reduceLT, Int.reduceEq, Int.reduceAdd, Int.reduceSub, Int.reduceNeg, KF3, Tryz.f3, g0, Nat.add_assoc]
          refine ⟨(e, pre ++ e.regs.map fun y => (y, r0)), ?_, ⟨se, hpe, by simp [hww]⟩, RT.sz' he⟩
          simp only [List.length_append, List.length_map]
        · have hi' : ¬ e.regs.length ≤ i := by omega
          have hy' : (e.regs.map (DV.int .i64))[i]? = some (.int .i64 y) := by simp [hy]
          have hn : ¬ l.length ≤ pre.length + i := by omega
          have hp' : (l.map pairD)[pre.length + i]? = some (pairD (y, r0)) := by
            rw [List.getElem?_map, hww, List.getElem?_append_right (by omega), show pre.length + i - pre.length = i by omega, List.getElem?_append_left (by simpa using hi)]
            simp [hy]
          have hw1 := wrapS (i := i) (n := 70000) (by omega) (by decide)
          have hw2 := wrapS (i := pre.length + i) (n := 70070000) (by omega) (by decide)
          simp (disch := omega) only [go_sem, reduceCtorEq, Nat.reduceLT, Nat.reduceLeDiff, Nat.reduceEqDiff, Nat.reduceAdd, Nat.reduceMul, Nat.reducePow, Nat.reduceDiv, Nat.reduceMod, Nat.reduceOr, Int.reduceLE, Int.reduceLT, Int.reduceEq, Int.reduceAdd, Int.reduceSub, Int.reduceNeg, KF3, Tryz.f3, hi', hy', hn, hp', g1, hw1, hw2, pairD_eq, Nat.add_assoc]
      · have hn : pre.length = l.length := by rw [hl, RT.wells_cons hel, kr]; simp
        simp (disch := omega) only [go_sem, reduceCtorEq, Nat.reduceLT, Nat.reduceLeDiff, Nat.reduceEqDiff, Nat.reduceAdd, Nat.reduceMul, Nat.reducePow, Nat.reduceDiv, Nat.reduceMod, Nat.reduceOr, Int.reduceLE, Int.reduceLT, Int.reduceEq, Int.reduceAdd, Int.reduceSub, Int.reduceNeg, KF3, Tryz.f3, k3, k4, k5, kr, hT, hn]
  · apply loopW_wf (fun (s : RT × List (Int × Int)) => ⟨[(3, .own 32 (l.map pairD)), (4, .dv (.int .i64 (s.2.length : Nat))), (5, .ptr 5 0)], [(5, .box [.dv (.int .i64 s.1.k), .dv (.str s.1.n), .dv (.lst (s.1.rg.map (DV.int .i64))), .dv (.lst (s.1.el.map RT.dv))])], []⟩)
      (fun s => s.1.Small ∧ s.1.plain = true ∧ l = s.2 ++ s.1.wells) (fun s => SizeOf.sizeOf s.1) (t, []) hX rfl ⟨st, htp, by simp [hl0]⟩ (by show SizeOf.sizeOf t < _; omega) (fun s hs => ?_)
    clear hX
    obtain ⟨x, pre⟩ := s
    obtain ⟨sx, hp, hl⟩ := hs
    simp only at sx hp hl
    rcases map_split x.el with hel | ⟨e, l', hel, l0⟩
    · have l0 : x.el.length = 0 := by rw [hel]; rfl
      have hn : pre.length = l.length := by rw [hl, RT.wells_nil hel]; simp
      rcases kcases x.k with ⟨k3, k4, k5, kr⟩ | ⟨k3, k4, k5, kr⟩ | ⟨k3, k4, k5, kr⟩ | ⟨k3, k4, k5, kr⟩ <;> simp (disch := omega) only [go_sem, reduceCtorEq, Nat.reduceLT, Nat.reduceLeDiff, Nat.reduceEqDiff, Nat.reduceAdd, Nat.reduceMul, Nat.reducePow, Nat.reduceDiv, Nat.reduceMod, Nat.reduceOr, Int.reduceLE, Int.reduceLT, Int.reduceEq, Int.reduceAdd, Int.reduceSub, Int.reduceNeg, KF3, Tryz.f3, k3, k4, k5, kr, l0, hT, hn]
    · rcases kcases x.k with ⟨k3, k4, k5, kr⟩ | ⟨k3, k4, k5, kr⟩ | ⟨k3, k4, k5, kr⟩ | ⟨k3, k4, k5, kr⟩
      · have hn : pre.length = l.length := by rw [hl, RT.wells_cons hel, kr]; simp
        simp (disch := omega) only [go_sem, reduceCtorEq, Nat.reduceLT, Nat.reduceLeDiff, Nat.reduceEqDiff, Nat.reduceAdd, Nat.reduceMul, Nat.reducePow, Nat.reduceDiv, Nat.reduceMod, Nat.reduceOr, Int.reduceLE, Int.reduceLT, Int.reduceEq, Int.reduceAdd, Int.reduceSub, Int.reduceNeg, KF3, Tryz.f3, k3, k4, k5, kr, hT, hn]
      · have hrl : x.rg.length = 1 := by
          have := RT.plain_cons hel
          rw [this] at hp
          simp only [kr, Bool.and_eq_true, Bool.not_eq_true', Bool.or_eq_false_iff, Bool.and_eq_false_iff, Bool.not_eq_false', decide_eq_true_eq, Bool.true_and] at hp
          omega
        have hll : l' = [] := by
          have := RT.plain_cons hel
          rw [this] at hp
          simp only [kr, Bool.and_eq_true, Bool.not_eq_true', Bool.or_eq_false_iff, decide_eq_false_iff_not] at hp
          have := hp.1.2
          exact List.length_eq_zero_iff.1 (by omega)
        have hpe : e.plain = true := by
          have := RT.plain_cons hel
          rw [this] at hp
          simp only [Bool.and_eq_true] at hp
          exact hp.2
        obtain ⟨r0, hr0⟩ : ∃ r0, x.rg = [r0] := by
          match hh : x.rg, hrl with
          | [r0], _ => exact ⟨r0, rfl⟩
        have he : e ∈ x.el := by rw [hel]; simp
        have se := sx.inv'.2.2 e he
        have hR := hR e se
        have g0 : (x.el.map RT.dv)[0]? = some e.dv := by rw [hel]; rfl
        have g1 : (x.rg.map (DV.int .i64))[0]? = some (.int .i64 r0) := by rw [hr0]; rfl
        have l1 : (x.el.length = 1) = True := by rw [hel, hll]; simp
        have hww : l = pre ++ ((e.regs.map fun y => (y, r0)) ++ e.wells) := by rw [hl, RT.wells_cons hel, kr, cond_true, hr0, wellOf_r]
        have hlen : l.length = pre.length + (e.regs.length + e.wells.length) := by rw [hww]; simp
        have erl := se.regs
        simp (disch := omega) only [go_sem, reduceCtorEq, Nat.reduceLT, Nat.reduceLeDiff, Nat.reduceEqDiff, Nat.reduceAdd, Nat.reduceMul, Nat.reducePow, Nat.reduceDiv, Nat.reduceMod, Nat.reduceOr, Int.reduceLE, Int.reduceLT, Int.reduceEq, Int.reduceAdd, Int.reduceSub, Int.reduceNeg, KF3, Tryz.f3, k3, k4, k5, kr, l1, g0, hR]
        generalize hX : loopW _ _ _ _ _ _ _ _ = X
        apply loopT e.regs (fun i => [(7, .dv (.int .i64 (i : Nat))), (4, .dv (.int .i64 ((pre.length + i : Nat) : Int)))]) (fun i => []) hX (by omega) rfl ?_ (fun i y hi hy => ?_) <;> clear hX
        · simp (disch := omega) only [go_sem, reduceCtorEq, Nat.reduceLT, Nat.reduceLeDiff, Nat.reduceEqDiff, Nat.reduceAdd, Nat.reduceMul, Nat.reducePow, Nat.reduceDiv, Nat.reduceMod, Nat.reduceOr, Int.reduceLE, Int.reduceLT, Int.reduceEq, Int.reduceAdd, Int.reduceSub, Int.reduceNeg, KF3, Tryz.f3, g0, Nat.add_assoc]
          refine ⟨(e, pre ++ e.regs.map fun y => (y, r0)), ?_, ⟨se, hpe, by simp [hww]⟩, RT.sz' he⟩
          simp only [List.length_append, List.length_map]
        · have hi' : ¬ e.regs.length ≤ i := by omega
          have hy' : (e.regs.map (DV.int .i64))[i]? = some (.int .i64 y) := by simp [hy]
          have hn : ¬ l.length ≤ pre.length + i := by omega
          have hp' : (l.map pairD)[pre.length + i]? = some (pairD (y, r0)) := by
            rw [List.getElem?_map, hww, List.getElem?_append_right (by omega), show pre.length + i - pre.length = i by omega, List.getElem?_append_left (by simpa using hi)]
            simp [hy]
          have hw1 := wrapS (i := i) (n := 70000) (by omega) (by decide)
          have hw2 := wrapS (i := pre.length + i) (n := 70070000) (by omega) (by decide)
          simp (disch := omega) only [go_sem, reduceCtorEq, Nat.reduceLT, Nat.reduceLeDiff, Nat.reduceEqDiff, Nat.reduceAdd, Nat.reduceMul, Nat.reducePow, Nat.reduceDiv, Nat.reduceMod, Nat.reduceOr, Int.reduceLE, Int.reduceLT, Int.reduceEq, Int.reduceAdd, Int.reduceSub, Int.reduceNeg, KF3, Tryz.f3, hi', hy', hn, hp', g1, hw1, hw2, pairD_eq, Nat.add_assoc]
      · have hrl : x.rg.length = 1 := by
          have := RT.plain_cons hel
          rw [this] at hp
          simp only [kr, Bool.and_eq_true, Bool.not_eq_true', Bool.or_eq_false_iff, Bool.and_eq_false_iff, Bool.not_eq_false', decide_eq_true_eq, Bool.true_and] at hp
          omega
        have hll : l' = [] := by
          have := RT.plain_cons hel
          rw [this] at hp
          simp only [kr, Bool.and_eq_true, Bool.not_eq_true', Bool.or_eq_false_iff, decide_eq_false_iff_not] at hp
          have := hp.1.2
          exact List.length_eq_zero_iff.1 (by omega)
        have hpe : e.plain = true := by
          have := RT.plain_cons hel
          rw [this] at hp
          simp only [Bool.and_eq_true] at hp
          exact hp.2
        obtain ⟨r0, hr0⟩ : ∃ r0, x.rg = [r0] := by
          match hh : x.rg, hrl with
          | [r0], _ => exact ⟨r0, rfl⟩
        have he : e ∈ x.el := by rw [hel]; simp
        have se := sx.inv'.2.2 e he
        have hR := hR e se
        have g0 : (x.el.map RT.dv)[0]? = some e.dv := by rw [hel]; rfl
        have g1 : (x.rg.map (DV.int .i64))[0]? = some (.int .i64 r0) := by rw [hr0]; rfl
        have l1 : (x.el.length = 1) = True := by rw [hel, hll]; simp
        have hww : l = pre ++ ((e.regs.map fun y => (y, r0)) ++ e.wells) := by rw [hl, RT.wells_cons hel, kr, cond_true, hr0, wellOf_r]
        have hlen : l.length = pre.length + (e.regs.length + e.wells.length) := by rw [hww]; simp
        have erl := se.regs
        simp (disch := omega) only [go_sem, reduceCtorEq, Nat.reduceLT, Nat.reduceLeDiff, Nat.reduceEqDiff, Nat.reduceAdd, Nat.reduceMul, Nat.reducePow, Nat.reduceDiv, Nat.reduceMod, Nat.reduceOr, Int.reduceLE, Int.reduceLT, Int.reduceEq, Int.reduceAdd, Int.reduceSub, Int.reduceNeg, KF3, Tryz.f3, k3, k4, k5, kr, l1, g0, hR]
        generalize hX : loopW _ _ _ _ _ _ _ _ = X
        apply loopT e.regs (fun i => [(7, .dv (.int .i64 (i : Nat))), (4, .dv (.int .i64 ((pre.length + i : Nat) : Int)))]) (fun i => []) hX (by omega) rfl ?_ (fun i y hi hy => ?_) <;> clear hX
        · simp (disch := omega) only [go_sem, reduceCtorEq, Nat.reduceLT, Nat.reduceLeDiff, Nat.reduceEqDiff, Nat.reduceAdd, Nat.reduceMul, Nat.reducePow, Nat.reduceDiv, Nat.reduceMod, Nat.reduceOr, Int.reduceLE, Int.reduceLT, Int.reduceEq, Int.reduceAdd, Int.reduceSub, Int.reduceNeg, KF3, Tryz.f3, g0, Nat.add_assoc]
          refine ⟨(e, pre ++ e.regs.map fun y => (y, r0)), ?_, ⟨se, hpe, by simp [hww]⟩, RT.sz' he⟩
          simp only [List.length_append, List.length_map]
        · have hi' : ¬ e.regs.length ≤ i := by omega
          have hy' : (e.regs.map (DV.int .i64))[i]? = some (.int .i64 y) := by simp [hy]
          have hn : ¬ l.length ≤ pre.length + i := by omega
          have hp' : (l.map pairD)[pre.length + i]? = some (pairD (y, r0)) := by
            rw [List.getElem?_map, hww, List.getElem?_append_right (by omega), show pre.length + i - pre.length = i by omega, List.getElem?_append_left (by simpa using hi)]
            simp [hy]
          have hw1 := wrapS (i := i) (n := 70000) (by omega) (by decide)
          have hw2 := wrapS (i := pre.length + i) (n := 70070000) (by omega) (by decide)
          simp (disch := omega) only [go_sem, reduceCtorEq, Nat.reduceLT, Nat.reduceLeDiff, Nat.reduceEqDiff, Nat.reduceAdd, Nat.reduceMul, Nat.reducePow, Nat.reduceDiv, Nat.reduceMod, Nat.reduceOr, Int.reduceLE, Int.reduceLT, Int.reduceEq, Int.reduceAdd, Int.reduceSub, Int.reduceNeg, KF3, Tryz.f3, hi', hy', hn, hp', g1, hw1, hw2, pairD_eq, Nat.add_assoc]
      · have hn : pre.length = l.length := by rw [hl, RT.wells_cons hel, kr]; simp
        simp (disch := omega) only [go_sem, reduceCtorEq, Nat.reduceLT, Nat.reduceLeDiff, Nat.reduceEqDiff, Nat.reduceAdd, Nat.reduceMul, Nat.reducePow, Nat.reduceDiv, Nat.reduceMod, Nat.reduceOr, Int.reduceLE, Int.reduceLT, Int.reduceEq, Int.reduceAdd, Int.reduceSub, Int.reduceNeg, KF3, Tryz.f3, k3, k4, k5, kr, hT, hn]
end Go.Abs
end

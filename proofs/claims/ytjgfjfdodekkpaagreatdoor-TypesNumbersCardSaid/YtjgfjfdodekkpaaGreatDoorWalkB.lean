/-
  What functions of the seat's program answer, for every input of theirs (small types, where it says so).
-/
import Derived.Test.YtjgfjfdodekkpaaGreatDoorWalkA
set_option linter.all false

section
namespace Go.Abs
open Go.Proofs
set_option maxRecDepth 10000


theorem w_Regions (c : CallF) (hR : ∀ k, c 43 [.dv (.int .i64 k)] [] [] 0 = some (.dv (.bool (isRef k)), []))
    (hO : ∀ t : RT, c 36 [.dv t.dv] [] [] 0 = some (.dv (.lst (t.rg1.map (DV.int .i64))), []))
    (t : RT) (ht : t.Small) (ih : ∀ e : RT, SizeOf.sizeOf e < SizeOf.sizeOf t → e.Small → c 26 [.dv e.dv] [] [] 0 = some (.dv (.lst (e.regs.map (DV.int .i64))), [])) (n : Nat) :
    callStep TryzG n c 26 [.dv t.dv] [] [] 0 = some (.dv (.lst (t.regs.map (DV.int .i64))), []) := by
  rw [callStepW TryzG _ _ _ (G_fn 26 |>.trans Tryz.func26) rfl rfl]
  obtain ⟨h1, h2, h3⟩ := ht.inv'
  have hq : t.rg1.length ≤ 1 := by simp only [RT.rg1, List.length_take]; omega
  have o1 : List.take 1 t.rg = t.rg1 := rfl
  rcases map_split t.el with hel | ⟨e, l, hel, l0⟩
  · have l0 : t.el.length = 0 := by rw [hel]; rfl
    rcases kcases t.k with ⟨k3, k4, k5, kr⟩ | ⟨k3, k4, k5, kr⟩ | ⟨k3, k4, k5, kr⟩ | ⟨k3, k4, k5, kr⟩
    · rcases map_split t.rg with hs | ⟨x, r, hs, hsl⟩ <;> simp (disch := omega) only [go_sem, reduceCtorEq, Nat.reduceLT, Nat.reduceLeDiff, Nat.reduceEqDiff, Nat.reduceAdd, Nat.reduceMul, Nat.reducePow, Nat.reduceDiv, Nat.reduceMod, Nat.reduceOr, Int.reduceLE, Int.reduceLT, Int.reduceEq, Int.reduceAdd, Int.reduceSub, Int.reduceNeg, KF26, Tryz.f26, hR, hO, k3, k4, k5, kr, l0, hs, RT.regs_nil hel, ownK, List.map_append]
    · rcases map_split t.rg1 with hu | ⟨y, s, hu, hul⟩ <;> simp (disch := omega) only [go_sem, reduceCtorEq, Nat.reduceLT, Nat.reduceLeDiff, Nat.reduceEqDiff, Nat.reduceAdd, Nat.reduceMul, Nat.reducePow, Nat.reduceDiv, Nat.reduceMod, Nat.reduceOr, Int.reduceLE, Int.reduceLT, Int.reduceEq, Int.reduceAdd, Int.reduceSub, Int.reduceNeg, KF26, Tryz.f26, hR, hO, k3, k4, k5, kr, l0, hu, RT.regs_nil hel, ownK, o1, List.map_append]
    · rcases map_split t.rg1 with hu | ⟨y, s, hu, hul⟩ <;> simp (disch := omega) only [go_sem, reduceCtorEq, Nat.reduceLT, Nat.reduceLeDiff, Nat.reduceEqDiff, Nat.reduceAdd, Nat.reduceMul, Nat.reducePow, Nat.reduceDiv, Nat.reduceMod, Nat.reduceOr, Int.reduceLE, Int.reduceLT, Int.reduceEq, Int.reduceAdd, Int.reduceSub, Int.reduceNeg, KF26, Tryz.f26, hR, hO, k3, k4, k5, kr, l0, hu, RT.regs_nil hel, ownK, o1, List.map_append]
    · simp (disch := omega) only [go_sem, reduceCtorEq, Nat.reduceLT, Nat.reduceLeDiff, Nat.reduceEqDiff, Nat.reduceAdd, Nat.reduceMul, Nat.reducePow, Nat.reduceDiv, Nat.reduceMod, Nat.reduceOr, Int.reduceLE, Int.reduceLT, Int.reduceEq, Int.reduceAdd, Int.reduceSub, Int.reduceNeg, KF26, Tryz.f26, hR, hO, k3, k4, k5, kr, l0, RT.regs_nil hel, ownK, List.map_append]
  · have ih := ih e (RT.sz' (by rw [hel]; simp)) (h3 e (by rw [hel]; simp))
    have hrg := (h3 e (by rw [hel]; simp)).regs
    have g0 : (t.el.map RT.dv)[0]? = some e.dv := by rw [hel]; rfl
    rcases kcases t.k with ⟨k3, k4, k5, kr⟩ | ⟨k3, k4, k5, kr⟩ | ⟨k3, k4, k5, kr⟩ | ⟨k3, k4, k5, kr⟩
    · rcases map_split t.rg with hs | ⟨x, r, hs, hsl⟩ <;> simp (disch := omega) only [go_sem, reduceCtorEq, Nat.reduceLT, Nat.reduceLeDiff, Nat.reduceEqDiff, Nat.reduceAdd, Nat.reduceMul, Nat.reducePow, Nat.reduceDiv, Nat.reduceMod, Nat.reduceOr, Int.reduceLE, Int.reduceLT, Int.reduceEq, Int.reduceAdd, Int.reduceSub, Int.reduceNeg, KF26, Tryz.f26, hR, hO, k3, k4, k5, kr, l0, hs, RT.regs_cons hel, ownK, List.map_append]
    · rcases map_split t.rg1 with hu | ⟨y, s, hu, hul⟩ <;> rcases map_split e.regs with hv | ⟨z, q, hv, hvl⟩ <;> simp (disch := omega) only [go_sem, reduceCtorEq, Nat.reduceLT, Nat.reduceLeDiff, Nat.reduceEqDiff, Nat.reduceAdd, Nat.reduceMul, Nat.reducePow, Nat.reduceDiv, Nat.reduceMod, Nat.reduceOr, Int.reduceLE, Int.reduceLT, Int.reduceEq, Int.reduceAdd, Int.reduceSub, Int.reduceNeg, KF26, Tryz.f26, hR, hO, k3, k4, k5, kr, l0, g0, hu, hv, ih, RT.regs_cons hel, ownK, o1, List.map_append]
    · rcases map_split t.rg1 with hu | ⟨y, s, hu, hul⟩ <;> rcases map_split e.regs with hv | ⟨z, q, hv, hvl⟩ <;> simp (disch := omega) only [go_sem, reduceCtorEq, Nat.reduceLT, Nat.reduceLeDiff, Nat.reduceEqDiff, Nat.reduceAdd, Nat.reduceMul, Nat.reducePow, Nat.reduceDiv, Nat.reduceMod, Nat.reduceOr, Int.reduceLE, Int.reduceLT, Int.reduceEq, Int.reduceAdd, Int.reduceSub, Int.reduceNeg, KF26, Tryz.f26, hR, hO, k3, k4, k5, kr, l0, g0, hu, hv, ih, RT.regs_cons hel, ownK, o1, List.map_append]
    · simp (disch := omega) only [go_sem, reduceCtorEq, Nat.reduceLT, Nat.reduceLeDiff, Nat.reduceEqDiff, Nat.reduceAdd, Nat.reduceMul, Nat.reducePow, Nat.reduceDiv, Nat.reduceMod, Nat.reduceOr, Int.reduceLE, Int.reduceLT, Int.reduceEq, Int.reduceAdd, Int.reduceSub, Int.reduceNeg, KF26, Tryz.f26, hR, hO, k3, k4, k5, kr, l0, RT.regs_cons hel, ownK, List.map_append]

def RT.ow (t : RT) : List Int := ownK t.k t.rg
theorem RT.ownAV_ow (t : RT) : t.ownAV = bif decide (t.k = 3) || isRef t.k then .dv (.lst (t.ow.map (DV.int .i64))) else .own 3 [] := t.ownAV_eq
theorem RT.regs_nilO {t : RT} (h : t.el = []) : t.regs = t.ow := RT.regs_nil h
theorem RT.regs_consO {t e : RT} {l : List RT} (h : t.el = e :: l) : t.regs = t.ow ++ (bif isRef t.k then e.regs else []) := RT.regs_cons h
theorem RT.owN {t : RT} (h3 : (t.k = 3) = False) (h : isRef t.k = false) : t.ow = [] := by simp [RT.ow, ownK, h3, h]
theorem w_RegionsR (c : CallF) (hO : ∀ t : RT, c 37 [.dv t.dv] [] [] 0 = some (t.ownAV, []))
    (t : RT) (ht : t.Small) (ih : ∀ e : RT, SizeOf.sizeOf e < SizeOf.sizeOf t → e.Small → c 14 [.dv e.dv] [] [] 0 = some (.dv (.lst (e.regs.map (DV.int .i64))), [])) (n : Nat) :
    callStep TryzG n c 14 [.dv t.dv] [] [] 0 = some (.dv (.lst (t.regs.map (DV.int .i64))), []) := by
  rw [callStepW TryzG _ _ _ (G_fn 14 |>.trans Tryz.func14) rfl rfl]
  obtain ⟨h1, h2, h3⟩ := ht.inv'
  have hq : t.ow.length ≤ 70 := Nat.le_trans (ownK_length t.k t.rg) h2
  rcases map_split t.el with hel | ⟨e, l, hel, l0⟩
  · have l0 : t.el.length = 0 := by rw [hel]; rfl
    rcases kcases t.k with ⟨k3, k4, k5, kr⟩ | ⟨k3, k4, k5, kr⟩ | ⟨k3, k4, k5, kr⟩ | ⟨k3, k4, k5, kr⟩
    · rcases map_split t.ow with hu | ⟨y, s, hu, hul⟩ <;> simp (disch := omega) only [go_sem, reduceCtorEq, Nat.reduceLT, Nat.reduceLeDiff, Nat.reduceEqDiff, Nat.reduceAdd, Nat.reduceMul, Nat.reducePow, Nat.reduceDiv, Nat.reduceMod, Nat.reduceOr, Int.reduceLE, Int.reduceLT, Int.reduceEq, Int.reduceAdd, Int.reduceSub, Int.reduceNeg, KF14, Tryz.f14, hO, RT.ownAV_ow, k3, k4, k5, kr, l0, hu, RT.regs_nilO hel, List.map_append]
    · rcases map_split t.ow with hu | ⟨y, s, hu, hul⟩ <;> simp (disch := omega) only [go_sem, reduceCtorEq, Nat.reduceLT, Nat.reduceLeDiff, Nat.reduceEqDiff, Nat.reduceAdd, Nat.reduceMul, Nat.reducePow, Nat.reduceDiv, Nat.reduceMod, Nat.reduceOr, Int.reduceLE, Int.reduceLT, Int.reduceEq, Int.reduceAdd, Int.reduceSub, Int.reduceNeg, KF14, Tryz.f14, hO, RT.ownAV_ow, k3, k4, k5, kr, l0, hu, RT.regs_nilO hel, List.map_append]
    · rcases map_split t.ow with hu | ⟨y, s, hu, hul⟩ <;> simp (disch := omega) only [go_sem, reduceCtorEq, Nat.reduceLT, Nat.reduceLeDiff, Nat.reduceEqDiff, Nat.reduceAdd, Nat.reduceMul, Nat.reducePow, Nat.reduceDiv, Nat.reduceMod, Nat.reduceOr, Int.reduceLE, Int.reduceLT, Int.reduceEq, Int.reduceAdd, Int.reduceSub, Int.reduceNeg, KF14, Tryz.f14, hO, RT.ownAV_ow, k3, k4, k5, kr, l0, hu, RT.regs_nilO hel, List.map_append]
    · simp (disch := omega) only [go_sem, reduceCtorEq, Nat.reduceLT, Nat.reduceLeDiff, Nat.reduceEqDiff, Nat.reduceAdd, Nat.reduceMul, Nat.reducePow, Nat.reduceDiv, Nat.reduceMod, Nat.reduceOr, Int.reduceLE, Int.reduceLT, Int.reduceEq, Int.reduceAdd, Int.reduceSub, Int.reduceNeg, KF14, Tryz.f14, hO, RT.ownAV_ow, k3, k4, k5, kr, l0, RT.regs_nilO hel, RT.owN k3 kr, List.map_append]
  · have ih := ih e (RT.sz' (by rw [hel]; simp)) (h3 e (by rw [hel]; simp))
    have hrg := (h3 e (by rw [hel]; simp)).regs
    have g0 : (t.el.map RT.dv)[0]? = some e.dv := by rw [hel]; rfl
    rcases kcases t.k with ⟨k3, k4, k5, kr⟩ | ⟨k3, k4, k5, kr⟩ | ⟨k3, k4, k5, kr⟩ | ⟨k3, k4, k5, kr⟩
    · rcases map_split t.ow with hu | ⟨y, s, hu, hul⟩ <;> simp (disch := omega) only [go_sem, reduceCtorEq, Nat.reduceLT, Nat.reduceLeDiff, Nat.reduceEqDiff, Nat.reduceAdd, Nat.reduceMul, Nat.reducePow, Nat.reduceDiv, Nat.reduceMod, Nat.reduceOr, Int.reduceLE, Int.reduceLT, Int.reduceEq, Int.reduceAdd, Int.reduceSub, Int.reduceNeg, KF14, Tryz.f14, hO, RT.ownAV_ow, k3, k4, k5, kr, l0, hu, RT.regs_consO hel, List.map_append]
    · rcases map_split t.ow with hu | ⟨y, s, hu, hul⟩ <;> rcases map_split e.regs with hv | ⟨z, q, hv, hvl⟩ <;> simp (disch := omega) only [go_sem, reduceCtorEq, Nat.reduceLT, Nat.reduceLeDiff, Nat.reduceEqDiff, Nat.reduceAdd, Nat.reduceMul, Nat.reducePow, Nat.reduceDiv, Nat.reduceMod, Nat.reduceOr, Int.reduceLE, Int.reduceLT, Int.reduceEq, Int.reduceAdd, Int.reduceSub, Int.reduceNeg, KF14, Tryz.f14, hO, RT.ownAV_ow, k3, k4, k5, kr, l0, g0, hu, hv, ih, RT.regs_consO hel, List.map_append]
    · rcases map_split t.ow with hu | ⟨y, s, hu, hul⟩ <;> rcases map_split e.regs with hv | ⟨z, q, hv, hvl⟩ <;> simp (disch := omega) only [go_sem, reduceCtorEq, Nat.reduceLT, Nat.reduceLeDiff, Nat.reduceEqDiff, Nat.reduceAdd, Nat.reduceMul, Nat.reducePow, Nat.reduceDiv, Nat.reduceMod, Nat.reduceOr, Int.reduceLE, Int.reduceLT, Int.reduceEq, Int.reduceAdd, Int.reduceSub, Int.reduceNeg, KF14, Tryz.f14, hO, RT.ownAV_ow, k3, k4, k5, kr, l0, g0, hu, hv, ih, RT.regs_consO hel, List.map_append]
    · simp (disch := omega) only [go_sem, reduceCtorEq, Nat.reduceLT, Nat.reduceLeDiff, Nat.reduceEqDiff, Nat.reduceAdd, Nat.reduceMul, Nat.reducePow, Nat.reduceDiv, Nat.reduceMod, Nat.reduceOr, Int.reduceLE, Int.reduceLT, Int.reduceEq, Int.reduceAdd, Int.reduceSub, Int.reduceNeg, KF14, Tryz.f14, hO, RT.ownAV_ow, k3, k4, k5, kr, l0, RT.regs_consO hel, RT.owN k3 kr, List.map_append]
end Go.Abs
end

section
namespace Go.Abs
open Go.Proofs
set_option maxRecDepth 10000
set_option maxHeartbeats 4000000

def RT.wellO (t : RT) : Bool := isRef t.k && t.el.isEmpty
def RT.wellOR (t : RT) : Bool := !isRef t.k || t.el.isEmpty || !(match t.el with | [] => true | e :: _ => e.wells.isEmpty)
theorem w_Well (c : CallF) (t : RT) (ht : t.Small)
    (hO : c 36 [.dv t.dv] [] [] 0 = some (.dv (.lst (t.rg1.map (DV.int .i64))), []))
    (hR : ∀ e ∈ t.el, c 26 [.dv e.dv] [] [] 0 = some (.dv (.lst (e.regs.map (DV.int .i64))), []))
    (ih : ∀ e : RT, SizeOf.sizeOf e < SizeOf.sizeOf t → e.Small → c 13 [.dv e.dv] [] [] 0 = some (lstAV e.wellO 32 (e.wells.map pairD), [])) :
    callStep TryzG 70001 c 13 [.dv t.dv] [] [] 0 = some (lstAV t.wellO 32 (t.wells.map pairD), []) := by
  rw [callStepW TryzG _ _ _ (G_fn 13 |>.trans Tryz.func13) rfl rfl]
  obtain ⟨h1, h2, h3⟩ := ht.inv'
  have o1 : List.take 1 t.rg = t.rg1 := rfl
  have hq : t.rg1.length ≤ 1 := by simp only [RT.rg1, List.length_take]; omega
  rcases map_split t.el with hel | ⟨e, l, hel, l0⟩
  · have l0 : t.el.length = 0 := by rw [hel]; rfl
    have hw : t.wellO = isRef t.k := by simp [RT.wellO, hel]
    rcases kcases t.k with ⟨k3, k4, k5, kr⟩ | ⟨k3, k4, k5, kr⟩ | ⟨k3, k4, k5, kr⟩ | ⟨k3, k4, k5, kr⟩ <;>
      simp (disch := omega) only [go_sem, reduceCtorEq, Nat.reduceLT, Nat.reduceLeDiff, Nat.reduceEqDiff, Nat.reduceAdd, Nat.reduceMul, Nat.reducePow, Nat.reduceDiv, Nat.reduceMod, Nat.reduceOr, Int.reduceLE, Int.reduceLT, Int.reduceEq, Int.reduceAdd, Int.reduceSub, Int.reduceNeg, KF13, Tryz.f13, k3, k4, k5, kr, l0, hw, RT.wells_nil hel]
  · have he : e ∈ t.el := by rw [hel]; simp
    have ih := ih e (RT.sz' he) (h3 e he)
    have hR := hR e he
    have hrg := (h3 e he).regs
    have hwl := (h3 e he).wells
    have g0 : (t.el.map RT.dv)[0]? = some e.dv := by rw [hel]; rfl
    have hw : t.wellO = false := by simp [RT.wellO, hel]
    rcases kcases t.k with ⟨k3, k4, k5, kr⟩ | ⟨k3, k4, k5, kr⟩ | ⟨k3, k4, k5, kr⟩ | ⟨k3, k4, k5, kr⟩
    · simp (disch := omega) only [go_sem, reduceCtorEq, Nat.reduceLT, Nat.reduceLeDiff, Nat.reduceEqDiff, Nat.reduceAdd, Nat.reduceMul, Nat.reducePow, Nat.reduceDiv, Nat.reduceMod, Nat.reduceOr, Int.reduceLE, Int.reduceLT, Int.reduceEq, Int.reduceAdd, Int.reduceSub, Int.reduceNeg, KF13, Tryz.f13, k3, k4, k5, kr, l0, hw, RT.wells_cons hel]
    · simp (disch := omega) only [go_sem, reduceCtorEq, Nat.reduceLT, Nat.reduceLeDiff, Nat.reduceEqDiff, Nat.reduceAdd, Nat.reduceMul, Nat.reducePow, Nat.reduceDiv, Nat.reduceMod, Nat.reduceOr, Int.reduceLE, Int.reduceLT, Int.reduceEq, Int.reduceAdd, Int.reduceSub, Int.reduceNeg, KF13, Tryz.f13, k3, k4, k5, kr, l0, g0, hw, hR, RT.wells_cons hel]
      generalize hX : loopW _ _ _ _ _ _ _ _ = X
      apply loopT e.regs (fun i => [(24, .dv (.int .i64 (i : Nat))), (3, .own 32 ((wellOf (e.regs.take i) t.rg).map pairD))]) (fun i => []) hX (by omega) rfl ?_ (fun i x hi hx => ?_) <;> clear hX
      · have hwo := wellOf_length e.regs t.rg
        rcases map_split e.wells with hs | ⟨y, r, hs, hsl⟩ <;> cases hb : e.wellO <;>
          simp (disch := omega) only [go_sem, reduceCtorEq, Nat.reduceLT, Nat.reduceLeDiff, Nat.reduceEqDiff, Nat.reduceAdd, Nat.reduceMul, Nat.reducePow, Nat.reduceDiv, Nat.reduceMod, Nat.reduceOr, Int.reduceLE, Int.reduceLT, Int.reduceEq, Int.reduceAdd, Int.reduceSub, Int.reduceNeg, KF13, Tryz.f13, List.take_length, ih, hs, hb, g0, List.append_nil, pairD_eq]
      · have hi' : ¬ e.regs.length ≤ i := by omega
        have hx' : (e.regs.map (DV.int .i64))[i]? = some (.int .i64 x) := by simp [hx]
        have hw := wrapS (i := i) (n := 70000) (by omega) (by decide)
        have htk := take_next hx
        simp (disch := omega) only [go_sem, reduceCtorEq, Nat.reduceLT, Nat.reduceLeDiff, Nat.reduceEqDiff, Nat.reduceAdd, Nat.reduceMul, Nat.reducePow, Nat.reduceDiv, Nat.reduceMod, Nat.reduceOr, Int.reduceLE, Int.reduceLT, Int.reduceEq, Int.reduceAdd, Int.reduceSub, Int.reduceNeg, KF13, Tryz.f13, hi', hx', hO]
        generalize hX : loopW _ _ _ _ _ _ _ _ = X
        apply loopT t.rg1 (fun j => [(31, .dv (.int .i64 (j : Nat))), (3, .own 32 ((wellOf (e.regs.take i) t.rg ++ (t.rg1.take j).map fun r => (x, r)).map pairD))]) (fun j => []) hX (by omega) (by simp only [List.take_zero, List.map_nil, List.append_nil]; rfl) ?_ (fun j y hj hy => ?_) <;> clear hX
        · simp (disch := omega) only [go_sem, reduceCtorEq, Nat.reduceLT, Nat.reduceLeDiff, Nat.reduceEqDiff, Nat.reduceAdd, Nat.reduceMul, Nat.reducePow, Nat.reduceDiv, Nat.reduceMod, Nat.reduceOr, Int.reduceLE, Int.reduceLT, Int.reduceEq, Int.reduceAdd, Int.reduceSub, Int.reduceNeg, KF13, Tryz.f13, List.take_length, hw, htk, wellOf_app, wellOf_one, o1]
        · have hj' : ¬ t.rg1.length ≤ j := by omega
          have hy' : (t.rg1.map (DV.int .i64))[j]? = some (.int .i64 y) := by simp [hy]
          have hw2 := wrapS (i := j) (n := 70000) (by omega) (by decide)
          have htk2 := take_next hy
          have b1 := wellOf_length (e.regs.take i) t.rg
          have b2 : (e.regs.take i).length ≤ 70000 := by simp only [List.length_take]; omega
          have b3 : (t.rg1.take j).length ≤ 1 := by simp only [List.length_take]; omega
          have b4 : (List.map pairD (wellOf (e.regs.take i) t.rg) ++ List.map pairD (List.map (fun r => (x, r)) (t.rg1.take j))).length ≤ 70001 := by simp only [List.length_append, List.length_map]; omega
          simp (disch := omega) only [go_sem, reduceCtorEq, Nat.reduceLT, Nat.reduceLeDiff, Nat.reduceEqDiff, Nat.reduceAdd, Nat.reduceMul, Nat.reducePow, Nat.reduceDiv, Nat.reduceMod, Nat.reduceOr, Int.reduceLE, Int.reduceLT, Int.reduceEq, Int.reduceAdd, Int.reduceSub, Int.reduceNeg, KF13, Tryz.f13, hj', hy', hw2, htk2, pairD_eq, List.append_assoc]
    · simp (disch := omega) only [go_sem, reduceCtorEq, Nat.reduceLT, Nat.reduceLeDiff, Nat.reduceEqDiff, Nat.reduceAdd, Nat.reduceMul, Nat.reducePow, Nat.reduceDiv, Nat.reduceMod, Nat.reduceOr, Int.reduceLE, Int.reduceLT, Int.reduceEq, Int.reduceAdd, Int.reduceSub, Int.reduceNeg, KF13, Tryz.f13, k3, k4, k5, kr, l0, g0, hw, hR, RT.wells_cons hel]
      generalize hX : loopW _ _ _ _ _ _ _ _ = X
      apply loopT e.regs (fun i => [(24, .dv (.int .i64 (i : Nat))), (3, .own 32 ((wellOf (e.regs.take i) t.rg).map pairD))]) (fun i => []) hX (by omega) rfl ?_ (fun i x hi hx => ?_) <;> clear hX
      · have hwo := wellOf_length e.regs t.rg
        rcases map_split e.wells with hs | ⟨y, r, hs, hsl⟩ <;> cases hb : e.wellO <;>
          simp (disch := omega) only [go_sem, reduceCtorEq, Nat.reduceLT, Nat.reduceLeDiff, Nat.reduceEqDiff, Nat.reduceAdd, Nat.reduceMul, Nat.reducePow, Nat.reduceDiv, Nat.reduceMod, Nat.reduceOr, Int.reduceLE, Int.reduceLT, Int.reduceEq, Int.reduceAdd, Int.reduceSub, Int.reduceNeg, KF13, Tryz.f13, List.take_length, ih, hs, hb, g0, List.append_nil, pairD_eq]
      · have hi' : ¬ e.regs.length ≤ i := by omega
        have hx' : (e.regs.map (DV.int .i64))[i]? = some (.int .i64 x) := by simp [hx]
        have hw := wrapS (i := i) (n := 70000) (by omega) (by decide)
        have htk := take_next hx
        simp (disch := omega) only [go_sem, reduceCtorEq, Nat.reduceLT, Nat.reduceLeDiff, Nat.reduceEqDiff, Nat.reduceAdd, Nat.reduceMul, Nat.reducePow, Nat.reduceDiv, Nat.reduceMod, Nat.reduceOr, Int.reduceLE, Int.reduceLT, Int.reduceEq, Int.reduceAdd, Int.reduceSub, Int.reduceNeg, KF13, Tryz.f13, hi', hx', hO]
        generalize hX : loopW _ _ _ _ _ _ _ _ = X
        apply loopT t.rg1 (fun j => [(31, .dv (.int .i64 (j : Nat))), (3, .own 32 ((wellOf (e.regs.take i) t.rg ++ (t.rg1.take j).map fun r => (x, r)).map pairD))]) (fun j => []) hX (by omega) (by simp only [List.take_zero, List.map_nil, List.append_nil]; rfl) ?_ (fun j y hj hy => ?_) <;> clear hX
        · simp (disch := omega) only [go_sem, reduceCtorEq, Nat.reduceLT, Nat.reduceLeDiff, Nat.reduceEqDiff, Nat.reduceAdd, Nat.reduceMul, Nat.reducePow, Nat.reduceDiv, Nat.reduceMod, Nat.reduceOr, Int.reduceLE, Int.reduceLT, Int.reduceEq, Int.reduceAdd, Int.reduceSub, Int.reduceNeg, KF13, Tryz.f13, List.take_length, hw, htk, wellOf_app, wellOf_one, o1]
        · have hj' : ¬ t.rg1.length ≤ j := by omega
          have hy' : (t.rg1.map (DV.int .i64))[j]? = some (.int .i64 y) := by simp [hy]
          have hw2 := wrapS (i := j) (n := 70000) (by omega) (by decide)
          have htk2 := take_next hy
          have b1 := wellOf_length (e.regs.take i) t.rg
          have b2 : (e.regs.take i).length ≤ 70000 := by simp only [List.length_take]; omega
          have b3 : (t.rg1.take j).length ≤ 1 := by simp only [List.length_take]; omega
          have b4 : (List.map pairD (wellOf (e.regs.take i) t.rg) ++ List.map pairD (List.map (fun r => (x, r)) (t.rg1.take j))).length ≤ 70001 := by simp only [List.length_append, List.length_map]; omega
          simp (disch := omega) only [go_sem, reduceCtorEq, Nat.reduceLT, Nat.reduceLeDiff, Nat.reduceEqDiff, Nat.reduceAdd, Nat.reduceMul, Nat.reducePow, Nat.reduceDiv, Nat.reduceMod, Nat.reduceOr, Int.reduceLE, Int.reduceLT, Int.reduceEq, Int.reduceAdd, Int.reduceSub, Int.reduceNeg, KF13, Tryz.f13, hj', hy', hw2, htk2, pairD_eq, List.append_assoc]
    · simp (disch := omega) only [go_sem, reduceCtorEq, Nat.reduceLT, Nat.reduceLeDiff, Nat.reduceEqDiff, Nat.reduceAdd, Nat.reduceMul, Nat.reducePow, Nat.reduceDiv, Nat.reduceMod, Nat.reduceOr, Int.reduceLE, Int.reduceLT, Int.reduceEq, Int.reduceAdd, Int.reduceSub, Int.reduceNeg, KF13, Tryz.f13, k3, k4, k5, kr, l0, hw, RT.wells_cons hel]
end Go.Abs
end

section
namespace Go.Abs
open Go.Proofs
set_option maxRecDepth 10000
set_option maxHeartbeats 4000000

theorem w_WellR (c : CallF) (t : RT) (ht : t.Small)
    (hR : ∀ e ∈ t.el, c 14 [.dv e.dv] [] [] 0 = some (.dv (.lst (e.regs.map (DV.int .i64))), []))
    (ih : ∀ e : RT, SizeOf.sizeOf e < SizeOf.sizeOf t → e.Small → c 34 [.dv e.dv] [] [] 0 = some (lstAV e.wellOR 32 (e.wells.map pairD), [])) :
    callStep TryzG 70001 c 34 [.dv t.dv] [] [] 0 = some (lstAV t.wellOR 32 (t.wells.map pairD), []) := by
  rw [callStepW TryzG _ _ _ (G_fn 34 |>.trans Tryz.func34) rfl rfl]
  obtain ⟨h1, h2, h3⟩ := ht.inv'
  rcases map_split t.el with hel | ⟨e, l, hel, l0⟩
  · have l0 : t.el.length = 0 := by rw [hel]; rfl
    have hw : t.wellOR = true := by simp [RT.wellOR, hel]
    rcases kcases t.k with ⟨k3, k4, k5, kr⟩ | ⟨k3, k4, k5, kr⟩ | ⟨k3, k4, k5, kr⟩ | ⟨k3, k4, k5, kr⟩ <;>
      simp (disch := omega) only [go_sem, reduceCtorEq, Nat.reduceLT, Nat.reduceLeDiff, Nat.reduceEqDiff, Nat.reduceAdd, Nat.reduceMul, Nat.reducePow, Nat.reduceDiv, Nat.reduceMod, Nat.reduceOr, Int.reduceLE, Int.reduceLT, Int.reduceEq, Int.reduceAdd, Int.reduceSub, Int.reduceNeg, KF34, Tryz.f34, k3, k4, k5, kr, l0, hw, RT.wells_nil hel]
  · have he : e ∈ t.el := by rw [hel]; simp
    have ih := ih e (RT.sz' he) (h3 e he)
    have hR := hR e he
    have hrg := (h3 e he).regs
    have hwl := (h3 e he).wells
    have g0 : (t.el.map RT.dv)[0]? = some e.dv := by rw [hel]; rfl
    rcases kcases t.k with ⟨k3, k4, k5, kr⟩ | ⟨k3, k4, k5, kr⟩ | ⟨k3, k4, k5, kr⟩ | ⟨k3, k4, k5, kr⟩
    · have hw : t.wellOR = true := by simp [RT.wellOR, kr]
      simp (disch := omega) only [go_sem, reduceCtorEq, Nat.reduceLT, Nat.reduceLeDiff, Nat.reduceEqDiff, Nat.reduceAdd, Nat.reduceMul, Nat.reducePow, Nat.reduceDiv, Nat.reduceMod, Nat.reduceOr, Int.reduceLE, Int.reduceLT, Int.reduceEq, Int.reduceAdd, Int.reduceSub, Int.reduceNeg, KF34, Tryz.f34, k3, k4, k5, kr, l0, hw, RT.wells_cons hel]
    · have hw : t.wellOR = !e.wells.isEmpty := by simp [RT.wellOR, kr, hel]
      simp (disch := omega) only [go_sem, reduceCtorEq, Nat.reduceLT, Nat.reduceLeDiff, Nat.reduceEqDiff, Nat.reduceAdd, Nat.reduceMul, Nat.reducePow, Nat.reduceDiv, Nat.reduceMod, Nat.reduceOr, Int.reduceLE, Int.reduceLT, Int.reduceEq, Int.reduceAdd, Int.reduceSub, Int.reduceNeg, KF34, Tryz.f34, k3, k4, k5, kr, l0, g0, hR]
      generalize hX : loopW _ _ _ _ _ _ _ _ = X
      rcases map_split t.rg with hs | ⟨r0, rs, hs, hsl⟩
      · apply loopT ([] : List Int) (fun i => [(5, .dv (.int .i64 (i : Nat)))]) (fun i => []) hX (by simp) rfl ?_ (fun i x hi hx => by simp at hi) <;> clear hX
        have hr0 : t.rg.length = 0 := by rw [hs]; rfl
        have hwn : wellOf e.regs t.rg = [] := by rw [hs]; exact wellOf_none _
        by_cases hz : e.regs.length ≤ 0
        · rcases map_split e.wells with hs | ⟨y, r, hs, hsl⟩ <;> cases hb : e.wellOR <;> simp (disch := omega) only [go_sem, reduceCtorEq, Nat.reduceLT, Nat.reduceLeDiff, Nat.reduceEqDiff, Nat.reduceAdd, Nat.reduceMul, Nat.reducePow, Nat.reduceDiv, Nat.reduceMod, Nat.reduceOr, Int.reduceLE, Int.reduceLT, Int.reduceEq, Int.reduceAdd, Int.reduceSub, Int.reduceNeg, KF34, Tryz.f34, eq_true hz, hr0, g0, ih, hb, hs, hw, hwn, RT.wells_cons hel, kr, pairD_eq, List.isEmpty_nil, List.isEmpty_cons]
        · rcases map_split e.wells with hs | ⟨y, r, hs, hsl⟩ <;> cases hb : e.wellOR <;> simp (disch := omega) only [go_sem, reduceCtorEq, Nat.reduceLT, Nat.reduceLeDiff, Nat.reduceEqDiff, Nat.reduceAdd, Nat.reduceMul, Nat.reducePow, Nat.reduceDiv, Nat.reduceMod, Nat.reduceOr, Int.reduceLE, Int.reduceLT, Int.reduceEq, Int.reduceAdd, Int.reduceSub, Int.reduceNeg, KF34, Tryz.f34, eq_false hz, hr0, g0, ih, hb, hs, hw, hwn, RT.wells_cons hel, kr, pairD_eq, List.isEmpty_nil, List.isEmpty_cons]
      · have hr0 : (t.rg.length ≤ 0) = False := eq_false (by omega)
        have hr1 : (t.rg.map (DV.int .i64))[0]? = some (.int .i64 r0) := by rw [hs]; rfl
        apply loopT e.regs (fun i => [(5, .dv (.int .i64 (i : Nat))), (3, .own 32 ((wellOf (e.regs.take i) t.rg).map pairD))]) (fun i => []) hX (by omega) rfl ?_ (fun i x hi hx => ?_) <;> clear hX
        · have hwo := wellOf_length e.regs t.rg
          rcases map_split e.wells with hs | ⟨y, r, hs, hsl⟩ <;> cases hb : e.wellOR <;> simp (disch := omega) only [go_sem, reduceCtorEq, Nat.reduceLT, Nat.reduceLeDiff, Nat.reduceEqDiff, Nat.reduceAdd, Nat.reduceMul, Nat.reducePow, Nat.reduceDiv, Nat.reduceMod, Nat.reduceOr, Int.reduceLE, Int.reduceLT, Int.reduceEq, Int.reduceAdd, Int.reduceSub, Int.reduceNeg, KF34, Tryz.f34, List.take_length, g0, ih, hb, hs, hw, RT.wells_cons hel, kr, pairD_eq, List.isEmpty_nil, List.isEmpty_cons, List.append_nil]
        · have hi' : ¬ e.regs.length ≤ i := by omega
          have hx' : (e.regs.map (DV.int .i64))[i]? = some (.int .i64 x) := by simp [hx]
          have hw := wrapS (i := i) (n := 70000) (by omega) (by decide)
          have htk := take_next hx
          have b1 := wellOf_length (e.regs.take i) t.rg
          have b2 : (e.regs.take i).length ≤ 70000 := by simp only [List.length_take]; omega
          have w1 : wellOf [x] t.rg = [(x, r0)] := by rw [wellOf_one, hs]; rfl
          simp (disch := omega) only [go_sem, reduceCtorEq, Nat.reduceLT, Nat.reduceLeDiff, Nat.reduceEqDiff, Nat.reduceAdd, Nat.reduceMul, Nat.reducePow, Nat.reduceDiv, Nat.reduceMod, Nat.reduceOr, Int.reduceLE, Int.reduceLT, Int.reduceEq, Int.reduceAdd, Int.reduceSub, Int.reduceNeg, KF34, Tryz.f34, hi', hx', hw, htk, hr0, hr1, wellOf_app, w1, pairD_eq]
    · have hw : t.wellOR = !e.wells.isEmpty := by simp [RT.wellOR, kr, hel]
      simp (disch := omega) only [go_sem, reduceCtorEq, Nat.reduceLT, Nat.reduceLeDiff, Nat.reduceEqDiff, Nat.reduceAdd, Nat.reduceMul, Nat.reducePow, Nat.reduceDiv, Nat.reduceMod, Nat.reduceOr, Int.reduceLE, Int.reduceLT, Int.reduceEq, Int.reduceAdd, Int.reduceSub, Int.reduceNeg, KF34, Tryz.f34, k3, k4, k5, kr, l0, g0, hR]
      generalize hX : loopW _ _ _ _ _ _ _ _ = X
      rcases map_split t.rg with hs | ⟨r0, rs, hs, hsl⟩
      · apply loopT ([] : List Int) (fun i => [(5, .dv (.int .i64 (i : Nat)))]) (fun i => []) hX (by simp) rfl ?_ (fun i x hi hx => by simp at hi) <;> clear hX
        have hr0 : t.rg.length = 0 := by rw [hs]; rfl
        have hwn : wellOf e.regs t.rg = [] := by rw [hs]; exact wellOf_none _
        by_cases hz : e.regs.length ≤ 0
        · rcases map_split e.wells with hs | ⟨y, r, hs, hsl⟩ <;> cases hb : e.wellOR <;> simp (disch := omega) only [go_sem, reduceCtorEq, Nat.reduceLT, Nat.reduceLeDiff, Nat.reduceEqDiff, Nat.reduceAdd, Nat.reduceMul, Nat.reducePow, Nat.reduceDiv, Nat.reduceMod, Nat.reduceOr, Int.reduceLE, Int.reduceLT, Int.reduceEq, Int.reduceAdd, Int.reduceSub, Int.reduceNeg, KF34, Tryz.f34, eq_true hz, hr0, g0, ih, hb, hs, hw, hwn, RT.wells_cons hel, kr, pairD_eq, List.isEmpty_nil, List.isEmpty_cons]
        · rcases map_split e.wells with hs | ⟨y, r, hs, hsl⟩ <;> cases hb : e.wellOR <;> simp (disch := omega) only [go_sem, reduceCtorEq, Nat.reduceLT, Nat.reduceLeDiff, Nat.reduceEqDiff, Nat.reduceAdd, Nat.reduceMul, Nat.reducePow, Nat.reduceDiv, Nat.reduceMod, Nat.reduceOr, Int.reduceLE, Int.reduceLT, Int.reduceEq, Int.reduceAdd, Int.reduceSub, Int.reduceNeg, KF34, Tryz.f34, eq_false hz, hr0, g0, ih, hb, hs, hw, hwn, RT.wells_cons hel, kr, pairD_eq, List.isEmpty_nil, List.isEmpty_cons]
      · have hr0 : (t.rg.length ≤ 0) = False := eq_false (by omega)
        have hr1 : (t.rg.map (DV.int .i64))[0]? = some (.int .i64 r0) := by rw [hs]; rfl
        apply loopT e.regs (fun i => [(5, .dv (.int .i64 (i : Nat))), (3, .own 32 ((wellOf (e.regs.take i) t.rg).map pairD))]) (fun i => []) hX (by omega) rfl ?_ (fun i x hi hx => ?_) <;> clear hX
        · have hwo := wellOf_length e.regs t.rg
          rcases map_split e.wells with hs | ⟨y, r, hs, hsl⟩ <;> cases hb : e.wellOR <;> simp (disch := omega) only [go_sem, reduceCtorEq, Nat.reduceLT, Nat.reduceLeDiff, Nat.reduceEqDiff, Nat.reduceAdd, Nat.reduceMul, Nat.reducePow, Nat.reduceDiv, Nat.reduceMod, Nat.reduceOr, Int.reduceLE, Int.reduceLT, Int.reduceEq, Int.reduceAdd, Int.reduceSub, Int.reduceNeg, KF34, Tryz.f34, List.take_length, g0, ih, hb, hs, hw, RT.wells_cons hel, kr, pairD_eq, List.isEmpty_nil, List.isEmpty_cons, List.append_nil]
        · have hi' : ¬ e.regs.length ≤ i := by omega
          have hx' : (e.regs.map (DV.int .i64))[i]? = some (.int .i64 x) := by simp [hx]
          have hw := wrapS (i := i) (n := 70000) (by omega) (by decide)
          have htk := take_next hx
          have b1 := wellOf_length (e.regs.take i) t.rg
          have b2 : (e.regs.take i).length ≤ 70000 := by simp only [List.length_take]; omega
          have w1 : wellOf [x] t.rg = [(x, r0)] := by rw [wellOf_one, hs]; rfl
          simp (disch := omega) only [go_sem, reduceCtorEq, Nat.reduceLT, Nat.reduceLeDiff, Nat.reduceEqDiff, Nat.reduceAdd, Nat.reduceMul, Nat.reducePow, Nat.reduceDiv, Nat.reduceMod, Nat.reduceOr, Int.reduceLE, Int.reduceLT, Int.reduceEq, Int.reduceAdd, Int.reduceSub, Int.reduceNeg, KF34, Tryz.f34, hi', hx', hw, htk, hr0, hr1, wellOf_app, w1, pairD_eq]
    · have hw : t.wellOR = true := by simp [RT.wellOR, kr]
      simp (disch := omega) only [go_sem, reduceCtorEq, Nat.reduceLT, Nat.reduceLeDiff, Nat.reduceEqDiff, Nat.reduceAdd, Nat.reduceMul, Nat.reducePow, Nat.reduceDiv, Nat.reduceMod, Nat.reduceOr, Int.reduceLE, Int.reduceLT, Int.reduceEq, Int.reduceAdd, Int.reduceSub, Int.reduceNeg, KF34, Tryz.f34, k3, k4, k5, kr, l0, hw, RT.wells_cons hel]
end Go.Abs
end

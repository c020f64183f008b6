/-
  What functions of the seat's program answer, for every input of theirs (small types, where it says so).
-/
import Derived.Test.YtjgfjfdodekkpaaGreatDoorWalkI
import Derived.Test.YtjgfjfdodekkpaaGreatDoorAbs5
import Derived.Test.YtjgfjfdodekkpaaGreatDoorWalkA
set_option linter.all false

section
namespace Go.Abs

/-! ## Maps of 16 numbers, one behind the other (plain) -/

def and15 (x : Int) : Nat := (BitVec.ofInt 64 x &&& BitVec.ofInt 64 15).toNat
theorem and15_le (x : Int) : and15 x ≤ 15 := by
  unfold and15
  rw [BitVec.toNat_and]
  exact Nat.le_trans Nat.and_le_right (by decide)
theorem and15E (T : TypeId) (x : Int) : intBin .and T .i64 x 15 = some (.int .i64 ((and15 x : Nat) : Int)) := by
  have h : intBin .and T .i64 x 15 = some (.int .i64 (IntKind.wrap .i64 ((and15 x : Nat) : Int))) := rfl
  rw [h]
  have := and15_le x
  have hw : IntKind.wrap .i64 ((and15 x : Nat) : Int) = (and15 x : Nat) := by
    have h2 : and15 x ≤ 15 := this
    generalize and15 x = n at h2
    have : n = 0 ∨ n = 1 ∨ n = 2 ∨ n = 3 ∨ n = 4 ∨ n = 5 ∨ n = 6 ∨ n = 7 ∨ n = 8 ∨ n = 9 ∨ n = 10 ∨ n = 11 ∨ n = 12 ∨ n = 13 ∨ n = 14 ∨ n = 15 := by omega
    rcases this with rfl | rfl | rfl | rfl | rfl | rfl | rfl | rfl | rfl | rfl | rfl | rfl | rfl | rfl | rfl | rfl <;> rfl
  rw [hw]

/-- The first i of 16 numbers, 0 behind them. -/
def fillL (f : Nat → Nat) (i : Nat) : List Int := (List.range 16).map fun j => if j < i then ((f j : Nat) : Int) else 0
theorem fillL_length (f i) : (fillL f i).length = 16 := by simp [fillL]
theorem fillL_get (f : Nat → Nat) (i j : Nat) (hj : j < 16) : (fillL f i)[j]? = some (if j < i then ((f j : Nat) : Int) else 0) := by
  simp [fillL, hj]
theorem fillL_zero (f) : fillL f 0 = List.replicate 16 0 := by simp [fillL]; rfl
theorem fillL_set (f : Nat → Nat) (i : Nat) (hi : i < 16) : (fillL f i).set i ((f i : Nat) : Int) = fillL f (i + 1) := by
  apply List.ext_getElem?
  intro j
  by_cases hj : j < 16
  · rw [List.getElem?_set, fillL_get f (i + 1) j hj]
    by_cases e : i = j
    · subst e; simp [fillL_length, hi]
    · rw [if_neg e, fillL_get f i j hj]
      by_cases h1 : j < i
      · simp [h1, show j < i + 1 by omega]
      · simp [h1, show ¬ j < i + 1 by omega]
  · rw [List.getElem?_eq_none (by simp [fillL_length]; omega), List.getElem?_eq_none (by simp [fillL_length]; omega)]
theorem fillL_skip (f : Nat → Nat) (i : Nat) (h : f i = 0) : fillL f (i + 1) = fillL f i := by
  apply List.ext_getElem?
  intro j
  by_cases hj : j < 16
  · rw [fillL_get f (i + 1) j hj, fillL_get f i j hj]
    by_cases h1 : j < i
    · simp [h1, show j < i + 1 by omega]
    · by_cases e : j = i
      · subst e; simp [h]
      · simp [h1, show ¬ j < i + 1 by omega]
  · rw [List.getElem?_eq_none (by simp [fillL_length]; omega), List.getElem?_eq_none (by simp [fillL_length]; omega)]
/-- What a list of numbers makes of a place. -/
def maskF (m : List Int) (j : Nat) : Nat := match m[j]? with
  | some x => and15 x
  | none => 0
theorem maskF_le (m j) : maskF m j ≤ 15 := by
  unfold maskF; split
  · exact and15_le _
  · omega
theorem maskF_in {m : List Int} {j : Nat} {x : Int} (h : m[j]? = some x) : maskF m j = and15 x := by simp [maskF, h]
theorem maskF_out {m : List Int} {j : Nat} (h : m.length ≤ j) : maskF m j = 0 := by simp [maskF, List.getElem?_eq_none h]
def full (f : Nat → Nat) : List Int := fillL f 16
theorem full_get (f : Nat → Nat) {j : Nat} (hj : j < 16) : (full f)[j]? = some ((f j : Nat) : Int) := by
  rw [full, fillL_get f 16 j hj, if_pos hj]
def bothF (f g : Nat → Nat) (j : Nat) : Nat := g (f j)
theorem put_both (f g : Nat → Nat) (hf : ∀ j, f j ≤ 15) {x : Int} (h0 : 0 ≤ x) (h1 : x ≤ 15) : putR (full g) (putR (full f) x) = putR (full (bothF f g)) x := by
  obtain ⟨i, rfl⟩ := Int.eq_ofNat_of_zero_le h0
  have hi : i < 16 := by omega
  have e1 : ∀ (h : Nat → Nat) (j : Nat), j < 16 → putR (full h) (j : Int) = ((h j : Nat) : Int) := fun h j hj => by
    have hl : (full h).length = 16 := fillL_length h 16
    have : (j : Int) < ((full h).length : Nat) := by omega
    simp only [putR, this, Int.natCast_nonneg, decide_true, Bool.and_self, cond_true, Int.toNat_natCast, List.getD_eq_getElem?_getD, full_get h hj, Option.getD_some]
  rw [e1 f i hi, e1 (bothF f g) i hi, e1 g (f i) (by have := hf i; omega)]
  rfl

theorem RT.subst_both (f g : Nat → Nat) (hf : ∀ j, f j ≤ 15) : ∀ {t : RT}, t.plain = true → (∀ x ∈ t.regs, 0 ≤ x ∧ x ≤ 15) → (t.subst (full f)).subst (full g) = t.subst (full (bothF f g))
  | .mk k nm rg [], hp, hr => by
    simp only [RT.subst_mk, List.map_nil, List.map_map]
    congr 1
    refine List.map_congr_left fun x hx => ?_
    have : x ∈ (RT.mk k nm rg []).regs := by
      simp only [RT.regs]
      simp only [RT.plain] at hp
      unfold ownK
      cases h3 : decide (k = 3)
      · cases hk : isRef k
        · simp only [hk, h3, Bool.not_false, Bool.true_and, Bool.false_and, Bool.false_or, Bool.not_not, decide_eq_true_eq] at hp
          have := List.length_eq_zero_iff.1 hp
          subst this; simp at hx
        · simp only [hk, h3, Bool.not_true, Bool.true_and, Bool.false_and, Bool.or_false, Bool.not_not, decide_eq_true_eq] at hp
          match rg, hp with
          | [r], _ => simpa using hx
      · exact hx
    exact put_both f g hf (hr x this).1 (hr x this).2
  | .mk k nm rg (e :: l), hp, hr => by
    simp only [RT.plain, Bool.and_eq_true, Bool.not_eq_true', Bool.or_eq_false_iff, decide_eq_false_iff_not, Bool.not_eq_false'] at hp
    obtain ⟨⟨⟨h1, h2⟩, h3⟩, h4⟩ := hp
    have hl : l = [] := List.length_eq_zero_iff.1 (by omega)
    subst hl
    simp only [h2, Bool.true_and, Bool.not_eq_false', decide_eq_true_eq] at h1
    have ih := RT.subst_both f g hf h4 (fun x hx => hr x (by simp only [RT.regs, h2, cond_true, List.mem_append]; exact .inr hx))
    simp only [RT.subst_mk, List.map_cons, List.map_nil, List.map_map, ih]
    congr 1
    refine List.map_congr_left fun x hx => ?_
    have : x ∈ (RT.mk k nm rg [e]).regs := by
      simp only [RT.regs, List.mem_append, ownK, h2, cond_true]
      left
      match rg, h1 with
      | [r], _ => cases decide (k = 3) <;> simpa using hx
    exact put_both f g hf (hr x this).1 (hr x this).2
mutual
theorem RT.same_subst_l (m : List Int) : ∀ t u : RT, (t.subst m).same u = t.same u
  | .mk k n rg el, .mk k' n' rg' el' => by simp only [RT.subst, RT.same, List.length_map, RT.sames_subst_l m el el']
theorem RT.sames_subst_l (m : List Int) : ∀ t u : List RT, RT.sames (RT.substs m t) u = RT.sames t u
  | [], [] => by simp [RT.substs]
  | [], _ :: _ => by simp [RT.substs]
  | _ :: _, [] => by simp [RT.substs, RT.sames]
  | x :: t, y :: u => by simp only [RT.substs, RT.sames, RT.same_subst_l m x y, RT.sames_subst_l m t u]
end
theorem RT.subst_k (m : List Int) (t : RT) : (t.subst m).k = t.k := by cases t; rfl
theorem RT.copy_subst (m : List Int) (t : RT) : (t.subst m).copy = t.copy := by rw [RT.copy_eq, RT.copy_eq, RT.subst_k]
end Go.Abs
end

section
namespace Go.Abs
open Go.Proofs
set_option maxRecDepth 10000
set_option maxHeartbeats 8000000

theorem list_set_int (l : List Int) (i : Nat) (v : Int) : (l.map (DV.int .i64)).set i (.int .i64 v) = (l.set i v).map (DV.int .i64) := by rw [List.map_set]
theorem t16 (f : Nat → Nat) (i : Nat) : List.take 16 ((fillL f i).map (DV.int .i64)) = (fillL f i).map (DV.int .i64) := by
  rw [show 16 = ((fillL f i).map (DV.int .i64)).length by rw [List.length_map, fillL_length], List.take_length]
theorem law_Numbers (c : CallF) (t : RT) (m n : List Int)
    (hD : ∀ t : RT, c 10 [.dv t.dv, .dv (.int .i64 60)] [] [] 0 = some (.dv (.bool (t.deep 60)), []))
    (hT : c 12 [] [] [] 0 = some (.dv (.bool true), []))
    (hRR : ∀ t : RT, t.Small → c 14 [.dv t.dv] [] [] 0 = some (.dv (.lst (t.regs.map (DV.int .i64))), []))
    (hR : ∀ t : RT, t.Small → c 26 [.dv t.dv] [] [] 0 = some (.dv (.lst (t.regs.map (DV.int .i64))), []))
    (hPl : ∀ t : RT, c 11 [.dv t.dv] [] [] 0 = some (.dv (.bool t.plain), []))
    (hM : ∀ (t : RT) (m : List Int), t.Small → c 23 [.dv t.dv, .dv (.lst (m.map (DV.int .i64)))] [] [] 0 = some (.dv (t.subst m).dv, []))
    (hE : ∀ t : RT, t.Small → c 19 [.dv t.dv, .dv t.dv] [] [] 0 = some (.dv (.bool true), []))
    (hS : ∀ a b : RT, a.Small → c 27 [.dv a.dv, .dv b.dv] [] [] 0 = some (.dv (.bool (a.same b)), []))
    (hC : ∀ t : RT, c 29 [.dv t.dv] [] [] 0 = some (.dv (.bool t.copy), [])) :
    callStep TryzG 100000 c 9 [.dv t.dv, .dv (.lst (m.map (DV.int .i64))), .dv (.lst (n.map (DV.int .i64)))] [] [] 0 = some (.dv (.bool true), []) := by
  rw [callStepW TryzG _ _ _ (G_fn 9 |>.trans Tryz.func9) rfl rfl]
  cases ht : t.deep 60 with
  | true => simp (maxSteps := 2000000) (disch := omega) only [go_sem, reduceCtorEq, Nat.reduceLT, Nat.reduceLeDiff, Nat.reduceEqDiff, Nat.reduceAdd, Nat.reduceMul, Nat.reducePow, Nat.reduceDiv, Nat.reduceMod, Nat.reduceOr, Int.reduceLE, Int.reduceLT, Int.reduceEq, Int.reduceAdd, Int.reduceSub, Int.reduceNeg, KF9, Tryz.f9, hD, hT, ht]
  | false =>
    have st : t.Small := ⟨60, by omega, ht⟩
    have hRt := hRR t st
    have z0 : List.replicate 16 (DV.int .i64 0) = (fillL (maskF m) 0).map (DV.int .i64) := by rw [fillL_zero]; rfl
    simp (maxSteps := 2000000) (disch := omega) only [go_sem, reduceCtorEq, Nat.reduceLT, Nat.reduceLeDiff, Nat.reduceEqDiff, Nat.reduceAdd, Nat.reduceMul, Nat.reducePow, Nat.reduceDiv, Nat.reduceMod, Nat.reduceOr, Int.reduceLE, Int.reduceLT, Int.reduceEq, Int.reduceAdd, Int.reduceSub, Int.reduceNeg, KF9, Tryz.f9, hD, ht, ↓z0]
    obtain ⟨xs, hxs⟩ : ∃ xs : List Nat, xs.length = 16 := ⟨List.range 16, by simp⟩
    generalize hX : loopW _ _ _ _ _ _ _ _ = X
    apply loopT xs (fun i => [(7, .own 3 ((fillL (maskF m) i).map (DV.int .i64))), (8, .own 3 ((fillL (maskF n) i).map (DV.int .i64))), (10, .dv (.int .i64 (i : Nat)))]) (fun i => []) hX (by rw [hxs]; omega) (by rw [show fillL (maskF n) 0 = fillL (maskF m) 0 by rw [fillL_zero, fillL_zero]]; rfl) ?_ (fun i x hi hx => ?_) <;> clear hX
    · simp (maxSteps := 2000000) (disch := omega) only [go_sem, reduceCtorEq, Nat.reduceLT, Nat.reduceLeDiff, Nat.reduceEqDiff, Nat.reduceAdd, Nat.reduceMul, Nat.reducePow, Nat.reduceDiv, Nat.reduceMod, Nat.reduceOr, Int.reduceLE, Int.reduceLT, Int.reduceEq, Int.reduceAdd, Int.reduceSub, Int.reduceNeg, KF9, Tryz.f9, hxs]
      generalize hX : loopW _ _ _ _ _ _ _ _ = X
      apply loopT xs (fun i => [(9, .own 3 ((fillL (bothF (maskF m) (maskF n)) i).map (DV.int .i64))), (11, .dv (.int .i64 (i : Nat)))]) (fun i => []) hX (by rw [hxs]; omega) (by rw [show fillL (bothF (maskF m) (maskF n)) 0 = fillL (maskF m) 0 by rw [fillL_zero, fillL_zero]]; rfl) ?_ (fun i x hi hx => ?_) <;> clear hX
      · simp (maxSteps := 2000000) (disch := omega) only [go_sem, reduceCtorEq, Nat.reduceLT, Nat.reduceLeDiff, Nat.reduceEqDiff, Nat.reduceAdd, Nat.reduceMul, Nat.reducePow, Nat.reduceDiv, Nat.reduceMod, Nat.reduceOr, Int.reduceLE, Int.reduceLT, Int.reduceEq, Int.reduceAdd, Int.reduceSub, Int.reduceNeg, KF9, Tryz.f9, hxs, hRt]
        generalize hX : loopW _ _ _ _ _ _ _ _ = X
        have srl := st.regs
        apply loopW_wf (fun (i : Nat) => ⟨[(3, .ptr 3 0), (7, .own 3 ((full (maskF m)).map (DV.int .i64))), (8, .own 3 ((full (maskF n)).map (DV.int .i64))), (9, .own 3 ((full (bothF (maskF m) (maskF n))).map (DV.int .i64))), (12, .dv (.lst (t.regs.map (DV.int .i64)))), (13, .dv (.int .i64 (i : Nat)))], [(3, .box [.dv (.int .i64 t.k), .dv (.str t.n), .dv (.lst (t.rg.map (DV.int .i64))), .dv (.lst (t.el.map RT.dv))])], []⟩)
          (fun i => i ≤ t.regs.length ∧ ∀ j x, j < i → t.regs[j]? = some x → 0 ≤ x ∧ x ≤ 15) (fun i => t.regs.length - i) 0 hX rfl ⟨Nat.zero_le _, fun j x hj => by omega⟩ (by show t.regs.length - 0 < _; omega) (fun i hi => ?_)
        clear hX
        obtain ⟨hi, hall⟩ := hi
        by_cases hge : t.regs.length ≤ i
        · have hin : ∀ x ∈ t.regs, 0 ≤ x ∧ x ≤ 15 := fun x hx => by
            obtain ⟨j, hj, rfl⟩ := List.getElem_of_mem hx
            exact hall j _ (by omega) (by simp [hj])
          cases hp : t.plain with
          | false => simp (maxSteps := 2000000) (disch := omega) only [go_sem, reduceCtorEq, Nat.reduceLT, Nat.reduceLeDiff, Nat.reduceEqDiff, Nat.reduceAdd, Nat.reduceMul, Nat.reducePow, Nat.reduceDiv, Nat.reduceMod, Nat.reduceOr, Int.reduceLE, Int.reduceLT, Int.reduceEq, Int.reduceAdd, Int.reduceSub, Int.reduceNeg, KF9, Tryz.f9, hge, hT, hPl, hp]
          | true =>
            have e1 := RT.subst_both (maskF m) (maskF n) (maskF_le m) hp hin
            have sm := st.subst (full (maskF m))
            have sx := sm.subst (full (maskF n))
            have m1 := hM t (full (maskF m)) st
            have m2 := hM (t.subst (full (maskF m))) (full (maskF n)) sm
            have m3 := hM t (full (bothF (maskF m) (maskF n))) st
            have sa : ((t.subst (full (maskF m))).subst (full (maskF n))).same t = true := by rw [RT.same_subst_l, RT.same_subst_l, RT.same_refl]
            have x1 := hE _ sx
            have x2 := hS _ t sx
            have x3 := hC ((t.subst (full (maskF m))).subst (full (maskF n)))
            have x4 := hC t
            have x5 := hR _ sx
            have rl := RT.same_regs sa
            have cp : ((t.subst (full (maskF m))).subst (full (maskF n))).copy = t.copy := by rw [RT.copy_subst, RT.copy_subst]
            rw [sa] at x2
            rw [cp] at x3
            rw [← e1] at m3
            generalize (t.subst (full (maskF m))).subst (full (maskF n)) = y at *
            simp (maxSteps := 2000000) (disch := omega) only [go_sem, reduceCtorEq, Nat.reduceLT, Nat.reduceLeDiff, Nat.reduceEqDiff, Nat.reduceAdd, Nat.reduceMul, Nat.reducePow, Nat.reduceDiv, Nat.reduceMod, Nat.reduceOr, Int.reduceLE, Int.reduceLT, Int.reduceEq, Int.reduceAdd, Int.reduceSub, Int.reduceNeg, KF9, Tryz.f9, hge, hT, hPl, hp, m1, m2, m3, x1, x2, x3, x4, x5, rl]
        · obtain ⟨x, hx⟩ : ∃ x, t.regs[i]? = some x := ⟨t.regs[i], by simp [show i < t.regs.length by omega]⟩
          have hx' : (t.regs.map (DV.int .i64))[i]? = some (.int .i64 x) := by simp [hx]
          have hw := wrapS (i := i) (n := 70000) (by omega) (by decide)
          by_cases x0 : 0 ≤ x
          · by_cases x15 : x ≤ 15
            · simp (maxSteps := 2000000) (disch := omega) only [go_sem, reduceCtorEq, Nat.reduceLT, Nat.reduceLeDiff, Nat.reduceEqDiff, Nat.reduceAdd, Nat.reduceMul, Nat.reducePow, Nat.reduceDiv, Nat.reduceMod, Nat.reduceOr, Int.reduceLE, Int.reduceLT, Int.reduceEq, Int.reduceAdd, Int.reduceSub, Int.reduceNeg, KF9, Tryz.f9, hge, hx', hw, x0, x15]
              refine ⟨i + 1, rfl, ⟨by omega, fun j y hj hy => ?_⟩, by omega⟩
              rcases Nat.lt_or_ge j i with h | h
              · exact hall j y h hy
              · obtain rfl : j = i := by omega
                obtain rfl := Option.some.inj (hx.symm.trans hy)
                exact ⟨x0, x15⟩
            · simp (maxSteps := 2000000) (disch := omega) only [go_sem, reduceCtorEq, Nat.reduceLT, Nat.reduceLeDiff, Nat.reduceEqDiff, Nat.reduceAdd, Nat.reduceMul, Nat.reducePow, Nat.reduceDiv, Nat.reduceMod, Nat.reduceOr, Int.reduceLE, Int.reduceLT, Int.reduceEq, Int.reduceAdd, Int.reduceSub, Int.reduceNeg, KF9, Tryz.f9, hge, hx', hw, x0, x15, hT]
          · simp (maxSteps := 2000000) (disch := omega) only [go_sem, reduceCtorEq, Nat.reduceLT, Nat.reduceLeDiff, Nat.reduceEqDiff, Nat.reduceAdd, Nat.reduceMul, Nat.reducePow, Nat.reduceDiv, Nat.reduceMod, Nat.reduceOr, Int.reduceLE, Int.reduceLT, Int.reduceEq, Int.reduceAdd, Int.reduceSub, Int.reduceNeg, KF9, Tryz.f9, hge, hx', hw, x0, hT]
      · have hi0 : i < 16 := by omega
        have hi' : ¬ 16 ≤ i := by omega
        have hw := wrapS (i := i) (n := 100) (by omega) (by decide)
        have ha : ((fillL (maskF m) 16).map (DV.int .i64))[i]? = some (.int .i64 ((maskF m i : Nat) : Int)) := by rw [List.getElem?_map, fillL_get _ _ _ hi0, if_pos hi0]; rfl
        have hb0 : maskF m i < 16 := by have := maskF_le m i; omega
        have hb : ((fillL (maskF n) 16).map (DV.int .i64))[maskF m i]? = some (.int .i64 ((maskF n (maskF m i) : Nat) : Int)) := by rw [List.getElem?_map, fillL_get _ _ _ hb0, if_pos hb0]; rfl
        have hc : ((fillL (bothF (maskF m) (maskF n)) i).map (DV.int .i64))[i]? = some (.int .i64 0) := by rw [List.getElem?_map, fillL_get _ _ _ hi0, if_neg (by omega)]; rfl
        have hs := fillL_set (bothF (maskF m) (maskF n)) i hi0
        simp (maxSteps := 2000000) (disch := omega) only [go_sem, reduceCtorEq, Nat.reduceLT, Nat.reduceLeDiff, Nat.reduceEqDiff, Nat.reduceAdd, Nat.reduceMul, Nat.reducePow, Nat.reduceDiv, Nat.reduceMod, Nat.reduceOr, Int.reduceLE, Int.reduceLT, Int.reduceEq, Int.reduceAdd, Int.reduceSub, Int.reduceNeg, KF9, Tryz.f9, hi', hw, ha, hb, hc, t16, list_set_int, fillL_length, show ((maskF n (maskF m i) : Nat) : Int) = ((bothF (maskF m) (maskF n) i : Nat) : Int) from rfl, hs]
    · have hi0 : i < 16 := by omega
      have hi' : ¬ 16 ≤ i := by omega
      have hw := wrapS (i := i) (n := 100) (by omega) (by decide)
      have ha : ((fillL (maskF m) i).map (DV.int .i64))[i]? = some (.int .i64 0) := by rw [List.getElem?_map, fillL_get _ _ _ hi0, if_neg (by omega)]; rfl
      have hb : ((fillL (maskF n) i).map (DV.int .i64))[i]? = some (.int .i64 0) := by rw [List.getElem?_map, fillL_get _ _ _ hi0, if_neg (by omega)]; rfl
      have hsa := fillL_set (maskF m) i hi0
      have hsb := fillL_set (maskF n) i hi0
      by_cases hm : m.length ≤ i
      · have ka := fillL_skip (maskF m) i (maskF_out hm)
        by_cases hn : n.length ≤ i
        · have kb := fillL_skip (maskF n) i (maskF_out hn)
          simp (maxSteps := 2000000) (disch := omega) only [go_sem, reduceCtorEq, Nat.reduceLT, Nat.reduceLeDiff, Nat.reduceEqDiff, Nat.reduceAdd, Nat.reduceMul, Nat.reducePow, Nat.reduceDiv, Nat.reduceMod, Nat.reduceOr, Int.reduceLE, Int.reduceLT, Int.reduceEq, Int.reduceAdd, Int.reduceSub, Int.reduceNeg, KF9, Tryz.f9, hi', hw, hm, hn, ka, kb]
        · obtain ⟨y, hy⟩ : ∃ y, n[i]? = some y := ⟨n[i], by simp [show i < n.length by omega]⟩
          have hy' : (n.map (DV.int .i64))[i]? = some (.int .i64 y) := by simp [hy]
          rw [maskF_in hy] at hsb
          simp (maxSteps := 2000000) (disch := omega) only [go_sem, reduceCtorEq, Nat.reduceLT, Nat.reduceLeDiff, Nat.reduceEqDiff, Nat.reduceAdd, Nat.reduceMul, Nat.reducePow, Nat.reduceDiv, Nat.reduceMod, Nat.reduceOr, Int.reduceLE, Int.reduceLT, Int.reduceEq, Int.reduceAdd, Int.reduceSub, Int.reduceNeg, KF9, Tryz.f9, hi', hw, hm, hn, ka, hy', hb, ↓and15E, t16, list_set_int, fillL_length, hsb]
      · obtain ⟨x, hx⟩ : ∃ x, m[i]? = some x := ⟨m[i], by simp [show i < m.length by omega]⟩
        have hx' : (m.map (DV.int .i64))[i]? = some (.int .i64 x) := by simp [hx]
        rw [maskF_in hx] at hsa
        by_cases hn : n.length ≤ i
        · have kb := fillL_skip (maskF n) i (maskF_out hn)
          simp (maxSteps := 2000000) (disch := omega) only [go_sem, reduceCtorEq, Nat.reduceLT, Nat.reduceLeDiff, Nat.reduceEqDiff, Nat.reduceAdd, Nat.reduceMul, Nat.reducePow, Nat.reduceDiv, Nat.reduceMod, Nat.reduceOr, Int.reduceLE, Int.reduceLT, Int.reduceEq, Int.reduceAdd, Int.reduceSub, Int.reduceNeg, KF9, Tryz.f9, hi', hw, hm, hn, kb, hx', ha, ↓and15E, t16, list_set_int, fillL_length, hsa]
        · obtain ⟨y, hy⟩ : ∃ y, n[i]? = some y := ⟨n[i], by simp [show i < n.length by omega]⟩
          have hy' : (n.map (DV.int .i64))[i]? = some (.int .i64 y) := by simp [hy]
          rw [maskF_in hy] at hsb
          simp (maxSteps := 2000000) (disch := omega) only [go_sem, reduceCtorEq, Nat.reduceLT, Nat.reduceLeDiff, Nat.reduceEqDiff, Nat.reduceAdd, Nat.reduceMul, Nat.reducePow, Nat.reduceDiv, Nat.reduceMod, Nat.reduceOr, Int.reduceLE, Int.reduceLT, Int.reduceEq, Int.reduceAdd, Int.reduceSub, Int.reduceNeg, KF9, Tryz.f9, hi', hw, hm, hn, hx', hy', ha, hb, ↓and15E, t16, list_set_int, fillL_length, hsa, hsb]
end Go.Abs
end

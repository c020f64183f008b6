/-
  What functions of the seat's program answer, for every input of theirs (small types, where it says so).
-/
import Derived.Test.YtjgfjfdodekkpaaGreatDoorAbs5
import Derived.Test.YtjgfjfdodekkpaaGreatDoorWalkA
import Derived.Test.YtjgfjfdodekkpaaGreatDoorWalkF
set_option linter.all false

section
namespace Go.Abs

/-! ## Types: what is asked from one to the next (plain) -/

mutual
theorem RT.same_subst2 (m n : List Int) : ∀ t : RT, (t.subst m).same (t.subst n) = true
  | .mk k nm rg el => by
    simp only [RT.subst, RT.same, List.length_map, RT.sames_subst2 m n el, decide_true, Bool.and_self]
theorem RT.sames_subst2 (m n : List Int) : ∀ l : List RT, RT.sames (RT.substs m l) (RT.substs n l) = true
  | [] => by simp [RT.substs, RT.sames]
  | t :: r => by simp only [RT.substs, RT.sames, RT.same_subst2 m n t, RT.sames_subst2 m n r, Bool.and_self]
end
mutual
theorem RT.subst_nil : ∀ t : RT, t.subst [] = t
  | .mk k nm rg el => by
    simp only [RT.subst, RT.substs_nil el]
    congr 1
    rw [show (putR [] : Int → Int) = id from funext fun x => by simp only [putR, List.length_nil]; cases h : decide (0 ≤ x) && decide (x < ((0 : Nat) : Int)) <;> simp_all <;> omega, List.map_id]
theorem RT.substs_nil : ∀ l : List RT, RT.substs [] l = l
  | [] => by simp [RT.substs]
  | t :: r => by simp only [RT.substs, RT.subst_nil t, RT.substs_nil r]
end
theorem RT.same_subst (m : List Int) (t : RT) : t.same (t.subst m) = true := by
  have := RT.same_subst2 [] m t
  rwa [RT.subst_nil] at this

/-- From one to the next, by way of a third. -/
def Via (ab bc ac : List (Int × Int)) : Prop := ∀ p ∈ ac, ∃ q, (p.1, q) ∈ ab ++ bc ∧ (q, p.2) ∈ ab ++ bc
theorem Via.app {ab bc ac ab' bc' ac' : List (Int × Int)} (h : Via ab bc ac) (k : Via ab' bc' ac') : Via (ab ++ ab') (bc ++ bc') (ac ++ ac') := by
  intro p hp
  rcases List.mem_append.1 hp with hp | hp
  · obtain ⟨q, h1, h2⟩ := h p hp
    refine ⟨q, ?_, ?_⟩
    · simp only [List.mem_append] at h1 ⊢; rcases h1 with h1 | h1 <;> simp [h1]
    · simp only [List.mem_append] at h2 ⊢; rcases h2 with h2 | h2 <;> simp [h2]
  · obtain ⟨q, h1, h2⟩ := k p hp
    refine ⟨q, ?_, ?_⟩
    · simp only [List.mem_append] at h1 ⊢; rcases h1 with h1 | h1 <;> simp [h1]
    · simp only [List.mem_append] at h2 ⊢; rcases h2 with h2 | h2 <;> simp [h2]
theorem Via.nil : Via [] [] [] := by intro p hp; simp at hp
theorem via_both : ∀ {x y z : List Int}, x.length = y.length → y.length = z.length → Via (bothR x y) (bothR y z) (bothR x z)
  | [], [], [], _, _ => Via.nil
  | a :: x, b :: y, c :: z, h1, h2 => by
    have ih := via_both (x := x) (y := y) (z := z) (by simpa using h1) (by simpa using h2)
    have h0 : Via [(a, b), (b, a)] [(b, c), (c, b)] [(a, c), (c, a)] := by
      intro p hp
      simp only [List.mem_cons, List.not_mem_nil, or_false] at hp
      rcases hp with rfl | rfl <;> exact ⟨b, by simp, by simp⟩
    have := h0.app ih
    simpa only [bothR, List.cons_append, List.nil_append] using this
theorem via_zip : ∀ {x y z : List Int}, x.length = y.length → y.length = z.length → Via (x.zip y) (y.zip z) (x.zip z)
  | [], [], [], _, _ => Via.nil
  | a :: x, b :: y, c :: z, h1, h2 => by
    have ih := via_zip (x := x) (y := y) (z := z) (by simpa using h1) (by simpa using h2)
    have h0 : Via [(a, b)] [(b, c)] [(a, c)] := by
      intro p hp
      simp only [List.mem_cons, List.not_mem_nil, or_false] at hp
      subst hp; exact ⟨b, by simp, by simp⟩
    have := h0.app ih
    simpa only [List.zip_cons_cons, List.cons_append, List.nil_append] using this

theorem RT.via : ∀ {a b c : RT}, a.same b = true → b.same c = true → Via (a.sub b) (b.sub c) (a.sub c)
  | .mk k n rg el, .mk k' n' rg' el', .mk k'' n'' rg'' el'', hab, hbc => by
    obtain ⟨h1, h2, h3, h4, h5⟩ := RT.same_inv hab
    obtain ⟨g1, g2, g3, g4, g5⟩ := RT.same_inv hbc
    simp only [RT.k, RT.rg, RT.el] at h1 h3 h4 h5 g1 g3 g4 g5
    subst h1 g1
    have hb := via_both h3 g3
    have hz : Via ((rg.take 1).zip (rg'.take 1)) ((rg'.take 1).zip (rg''.take 1)) ((rg.take 1).zip (rg''.take 1)) := via_zip (by simp [h3]) (by simp [g3])
    match el, el', el'', h4, g4, h5, g5 with
    | [], [], [], _, _, _, _ =>
      simp only [RT.sub]
      cases decide (k = 3)
      · cases isRef k
        · exact Via.nil
        · exact hz
      · exact hb
    | e :: l, e' :: l', e'' :: l'', _, _, h5, g5 =>
      have sab : e.same e' = true := h5 (e, e') (by simp)
      have sbc : e'.same e'' = true := g5 (e', e'') (by simp)
      simp only [RT.sub]
      cases decide (k = 3)
      · cases isRef k
        · exact Via.nil
        · refine hz.app ?_
          cases decide (k = 4)
          · exact via_both (RT.same_regs sab) (RT.same_regs sbc)
          · exact RT.via sab sbc
      · exact hb
theorem both_refl : ∀ {x : List Int} {p : Int × Int}, p ∈ bothR x x → p.1 = p.2
  | [], p, h => by simp [bothR] at h
  | a :: x, p, h => by
    simp only [bothR, List.mem_cons] at h
    rcases h with rfl | rfl | h
    · rfl
    · rfl
    · exact both_refl h
theorem zip_refl : ∀ {x : List Int} {p : Int × Int}, p ∈ x.zip x → p.1 = p.2
  | [], p, h => by simp at h
  | a :: x, p, h => by
    simp only [List.zip_cons_cons, List.mem_cons] at h
    rcases h with rfl | h
    · rfl
    · exact zip_refl h
theorem RT.sub_refl : ∀ {a : RT} {p : Int × Int}, p ∈ a.sub a → p.1 = p.2
  | .mk k n rg [], p, h => by
    simp only [RT.sub] at h
    cases hk : decide (k = 3) <;> simp only [hk, cond_true, cond_false] at h
    · cases hr : isRef k <;> simp only [hr, cond_true, cond_false] at h
      · simp at h
      · exact zip_refl h
    · exact both_refl h
  | .mk k n rg (e :: l), p, h => by
    simp only [RT.sub] at h
    cases hk : decide (k = 3) <;> simp only [hk, cond_true, cond_false] at h
    · cases hr : isRef k <;> simp only [hr, cond_true, cond_false] at h
      · simp at h
      · rcases List.mem_append.1 h with h | h
        · exact zip_refl h
        · cases h4 : decide (k = 4) <;> simp only [h4, cond_true, cond_false] at h
          · exact both_refl h
          · exact RT.sub_refl h
    · exact both_refl h
end Go.Abs
end

section
namespace Go.Abs
open Go.Proofs
set_option maxRecDepth 10000
set_option maxHeartbeats 8000000

def addP (x : Int) (got : List Int) (p : Int × Int) : List Int := bif decide (p.1 = x) && !got.any (fun y => decide (y = p.2)) then got ++ [p.2] else got
theorem addP_pre (x : Int) (l : List (Int × Int)) : ∀ got : List Int, got <+: l.foldl (addP x) got := by
  induction l with
  | nil => intro got; exact List.prefix_refl _
  | cons p l ih =>
    intro got
    refine List.IsPrefix.trans ?_ (ih (addP x got p))
    unfold addP
    cases decide (p.1 = x) && !got.any (fun y => decide (y = p.2))
    · exact List.prefix_refl _
    · exact List.prefix_append _ _
theorem addP_mem {x : Int} {l : List (Int × Int)} {p : Int × Int} (hp : p ∈ l) (hx : p.1 = x) : ∀ got : List Int, p.2 ∈ l.foldl (addP x) got := by
  induction l with
  | nil => simp at hp
  | cons q l ih =>
    intro got
    rcases List.mem_cons.1 hp with rfl | hp
    · refine (addP_pre x l _).subset ?_
      unfold addP
      by_cases h : p.2 ∈ got
      · cases decide (p.1 = x) && !got.any (fun y => decide (y = p.2)) <;> simp [h]
      · have : got.any (fun y => decide (y = p.2)) = false := by
          rw [List.any_eq_false]; intro y hy; simp; rintro rfl; exact h hy
        simp [hx, this]
    · exact ih hp _
theorem addP_nodup {x : Int} {l : List (Int × Int)} : ∀ {got : List Int}, got.Nodup → (l.foldl (addP x) got).Nodup := by
  induction l with
  | nil => intro got h; exact h
  | cons q l ih =>
    intro got h
    refine ih ?_
    unfold addP
    cases hc : decide (q.1 = x) && !got.any (fun y => decide (y = q.2))
    · exact h
    · simp only [cond_true]
      rw [List.nodup_append]
      simp only [Bool.and_eq_true, Bool.not_eq_true', List.any_eq_false, decide_eq_true_eq] at hc
      refine ⟨h, by simp, fun a ha b hb => ?_⟩
      simp at hb; subst hb
      exact hc.2 a ha
theorem addP_sub {x : Int} {l : List (Int × Int)} {m : List Int} (hm : ∀ q ∈ l, q.2 ∈ m) : ∀ {got : List Int}, (∀ y ∈ got, y ∈ m) → ∀ y ∈ l.foldl (addP x) got, y ∈ m := by
  induction l with
  | nil => intro got h; exact h
  | cons q l ih =>
    intro got h
    refine ih (fun r hr => hm r (by simp [hr])) ?_
    unfold addP
    cases decide (q.1 = x) && !got.any (fun y => decide (y = q.2))
    · exact h
    · intro y hy
      simp only [cond_true, List.mem_append, List.mem_singleton] at hy
      rcases hy with hy | rfl
      · exact h y hy
      · exact hm q (by simp)
theorem nodup_le {l m : List Int} (h : l.Nodup) (hs : ∀ x ∈ l, x ∈ m) : l.length ≤ m.length := by
  induction l generalizing m with
  | nil => exact Nat.zero_le _
  | cons x l ih =>
    have hx : x ∈ m := hs x (by simp)
    have := ih (m := m.erase x) (List.nodup_cons.1 h).2 (fun y hy => by
      have hne : y ≠ x := by rintro rfl; exact (List.nodup_cons.1 h).1 hy
      exact (List.mem_erase_of_ne hne).2 (hs y (by simp [hy])))
    rw [List.length_erase_of_mem hx] at this
    have hp : 0 < m.length := List.length_pos_of_mem hx
    simp only [List.length_cons]; omega

/-- What is known ahead of a round. -/
structure FInv (l : List (Int × Int)) (p : Int × Int) (i : Nat) (got : List Int) : Prop where
  le : i ≤ got.length
  nd : got.Nodup
  sub : ∀ y ∈ got, y ∈ p.1 :: l.map (·.2)
  head : p.1 ∈ got
  ahead : ∀ j y, j < i → got[j]? = some y → y ≠ p.2 ∧ ∀ q ∈ l, q.1 = y → q.2 ∈ got
theorem FInv.len {l : List (Int × Int)} {p : Int × Int} {i : Nat} {got : List Int} (h : FInv l p i got) : got.length ≤ l.length + 1 := by
  have := nodup_le h.nd h.sub
  simpa using this
theorem FInv.zero (l : List (Int × Int)) (p : Int × Int) : FInv l p 0 [p.1] := ⟨by simp, by simp, by simp, by simp, fun j y hj => by omega⟩
theorem FInv.next {l : List (Int × Int)} {p : Int × Int} {i : Nat} {got : List Int} {x : Int} (h : FInv l p i got) (hx : got[i]? = some x) (hne : x ≠ p.2) : FInv l p (i + 1) (l.foldl (addP x) got) := by
  have hpre := addP_pre x l got
  have hlt : i < got.length := (List.getElem?_eq_some_iff.1 hx).1
  refine ⟨Nat.le_trans hlt hpre.length_le, addP_nodup h.nd, addP_sub (fun q hq => by simp; exact .inr ⟨q.1, hq⟩) h.sub, hpre.subset h.head, fun j y hj hy => ?_⟩
  have hy' : got[j]? = some y := by
    obtain ⟨t, ht⟩ := hpre
    rw [← ht, List.getElem?_append_left (by omega)] at hy
    exact hy
  rcases Nat.lt_or_ge j i with hji | hji
  · obtain ⟨h1, h2⟩ := h.ahead j y hji hy'
    exact ⟨h1, fun q hq hqy => hpre.subset (h2 q hq hqy)⟩
  · obtain rfl : j = i := by omega
    obtain rfl := Option.some.inj (hx.symm.trans hy')
    exact ⟨hne, fun q hq hqy => addP_mem hq hqy got⟩
theorem FInv.done {l : List (Int × Int)} {p : Int × Int} {got : List Int} (h : FInv l p got.length got) {q : Int} (h1 : (p.1, q) ∈ l) (h2 : (q, p.2) ∈ l) : False := by
  have all : ∀ y ∈ got, y ≠ p.2 ∧ ∀ r ∈ l, r.1 = y → r.2 ∈ got := fun y hy => by
    obtain ⟨j, hj, rfl⟩ := List.getElem_of_mem hy
    exact h.ahead j _ hj (by simp [hj])
  have hq := (all _ h.head).2 _ h1 rfl
  have hp := (all _ hq).2 _ h2 rfl
  exact (all _ hp).1 rfl

theorem w_follows (c : CallF) (l : List (Int × Int)) (p : Int × Int) (hl : l.length ≤ 1000000) {q : Int} (h1 : (p.1, q) ∈ l) (h2 : (q, p.2) ∈ l) :
    callStep TryzG (l.length + 10) c 35 [.dv (.lst (l.map pairD)), .dv (pairD p)] [] [] 0 = some (.dv (.bool true), []) := by
  rw [callStepW TryzG _ _ _ (G_fn 35 |>.trans Tryz.func35) rfl rfl]
  simp (disch := omega) only [go_sem, reduceCtorEq, Nat.reduceLT, Nat.reduceLeDiff, Nat.reduceEqDiff, Nat.reduceAdd, Nat.reduceMul, Nat.reducePow, Nat.reduceDiv, Nat.reduceMod, Nat.reduceOr, Int.reduceLE, Int.reduceLT, Int.reduceEq, Int.reduceAdd, Int.reduceSub, Int.reduceNeg, KF35, Tryz.f35, pairD_eq]
  generalize hX : loopW _ _ _ _ _ _ _ _ = X
  apply loopW_wf (fun (s : Nat × List Int) => ⟨[(0, .dv (.lst (l.map pairD))), (3, .ptr 3 0), (5, .own 3 (s.2.map (DV.int .i64))), (6, .dv (.int .i64 (s.1 : Nat)))], [(3, .box [.dv (.int .i64 p.1), .dv (.int .i64 p.2)])], []⟩)
    (fun s => FInv l p s.1 s.2) (fun s => l.length + 2 - s.1) (0, [p.1]) hX rfl (FInv.zero l p) (by show l.length + 2 - 0 < _; omega) (fun s hs => ?_)
  clear hX
  obtain ⟨i, got⟩ := s
  simp only at hs ⊢
  have hgl := hs.len
  by_cases hi : got.length ≤ i
  · have := hs.le
    obtain rfl : i = got.length := by omega
    exact (hs.done h1 h2).elim
  · obtain ⟨x, hx⟩ : ∃ x, got[i]? = some x := ⟨got[i], by simp [show i < got.length by omega]⟩
    have hx' : (got.map (DV.int .i64))[i]? = some (.int .i64 x) := by simp [hx]
    have hw := wrapS (i := i) (n := 10000000) (by omega) (by decide)
    by_cases hxp : x = p.2
    · simp (disch := omega) only [go_sem, reduceCtorEq, Nat.reduceLT, Nat.reduceLeDiff, Nat.reduceEqDiff, Nat.reduceAdd, Nat.reduceMul, Nat.reducePow, Nat.reduceDiv, Nat.reduceMod, Nat.reduceOr, Int.reduceLE, Int.reduceLT, Int.reduceEq, Int.reduceAdd, Int.reduceSub, Int.reduceNeg, KF35, Tryz.f35, hi, hx', hxp]
    · simp (disch := omega) only [go_sem, reduceCtorEq, Nat.reduceLT, Nat.reduceLeDiff, Nat.reduceEqDiff, Nat.reduceAdd, Nat.reduceMul, Nat.reducePow, Nat.reduceDiv, Nat.reduceMod, Nat.reduceOr, Int.reduceLE, Int.reduceLT, Int.reduceEq, Int.reduceAdd, Int.reduceSub, Int.reduceNeg, KF35, Tryz.f35, hi, hx', hxp]
      generalize hX : loopW _ _ _ _ _ _ _ _ = X
      apply loopT l (fun k => [(5, .own 3 (((l.take k).foldl (addP x) got).map (DV.int .i64))), (7, .dv (.int .i64 (k : Nat)))]) (fun k => []) hX (by omega) rfl ?_ (fun k y hk hy => ?_) <;> clear hX
      · simp (disch := omega) only [go_sem, reduceCtorEq, Nat.reduceLT, Nat.reduceLeDiff, Nat.reduceEqDiff, Nat.reduceAdd, Nat.reduceMul, Nat.reducePow, Nat.reduceDiv, Nat.reduceMod, Nat.reduceOr, Int.reduceLE, Int.reduceLT, Int.reduceEq, Int.reduceAdd, Int.reduceSub, Int.reduceNeg, KF35, Tryz.f35, hw, List.take_length]
        exact ⟨(i + 1, l.foldl (addP x) got), rfl, hs.next hx hxp, by have := (hs.next hx hxp).len; have := (hs.next hx hxp).le; simp only; omega⟩
      · have hk' : ¬ l.length ≤ k := by omega
        have hy' : (l.map pairD)[k]? = some (pairD y) := by simp [hy]
        have hw2 := wrapS (i := k) (n := 10000000) (by omega) (by decide)
        have htk := take_next hy
        generalize hg : (l.take k).foldl (addP x) got = g
        have hgp : got <+: g := by rw [← hg]; exact addP_pre x _ got
        have hgx : (g.map (DV.int .i64))[i]? = some (.int .i64 x) := by
          obtain ⟨t, ht⟩ := hgp
          rw [List.getElem?_map, ← ht, List.getElem?_append_left (by omega), hx]; rfl
        have hgl2 : g.length ≤ l.length + 1 := by
          rw [← hg]
          have := nodup_le (addP_nodup (x := x) (l := l.take k) hs.nd) (addP_sub (m := p.1 :: l.map (·.2)) (fun q hq => by simp; exact .inr ⟨q.1, List.mem_of_mem_take hq⟩) hs.sub)
          simpa using this
        have hnext : (l.take (k + 1)).foldl (addP x) got = addP x g y := by rw [htk, List.foldl_append, hg]; rfl
        by_cases hyx : y.1 = x
        · simp (disch := omega) only [go_sem, reduceCtorEq, Nat.reduceLT, Nat.reduceLeDiff, Nat.reduceEqDiff, Nat.reduceAdd, Nat.reduceMul, Nat.reducePow, Nat.reduceDiv, Nat.reduceMod, Nat.reduceOr, Int.reduceLE, Int.reduceLT, Int.reduceEq, Int.reduceAdd, Int.reduceSub, Int.reduceNeg, KF35, Tryz.f35, hk', hy', hgx, hyx, pairD_eq]
          generalize hX : loopW _ _ _ _ _ _ _ _ = X
          apply loopT g (fun j => [(8, .dv (.bool ((g.take j).any fun z => decide (z = y.2)))), (9, .dv (.int .i64 (j : Nat)))]) (fun j => []) hX (by omega) rfl ?_ (fun j z hj hz => ?_) <;> clear hX
          · cases ha : g.any (fun z => decide (z = y.2)) with
            | true => simp (disch := omega) only [go_sem, reduceCtorEq, Nat.reduceLT, Nat.reduceLeDiff, Nat.reduceEqDiff, Nat.reduceAdd, Nat.reduceMul, Nat.reducePow, Nat.reduceDiv, Nat.reduceMod, Nat.reduceOr, Int.reduceLE, Int.reduceLT, Int.reduceEq, Int.reduceAdd, Int.reduceSub, Int.reduceNeg, KF35, Tryz.f35, List.take_length, ha, hw2, hnext, addP, hyx]
            | false => simp (disch := omega) only [go_sem, reduceCtorEq, Nat.reduceLT, Nat.reduceLeDiff, Nat.reduceEqDiff, Nat.reduceAdd, Nat.reduceMul, Nat.reducePow, Nat.reduceDiv, Nat.reduceMod, Nat.reduceOr, Int.reduceLE, Int.reduceLT, Int.reduceEq, Int.reduceAdd, Int.reduceSub, Int.reduceNeg, KF35, Tryz.f35, List.take_length, ha, hy', hw2, hnext, addP, hyx, pairD_eq]
          · have hj' : ¬ g.length ≤ j := by omega
            have hz' : (g.map (DV.int .i64))[j]? = some (.int .i64 z) := by simp [hz]
            have hw3 := wrapS (i := j) (n := 10000000) (by omega) (by decide)
            have htj := take_next hz
            cases ha : (g.take j).any (fun z => decide (z = y.2)) with
            | true => simp (disch := omega) only [go_sem, reduceCtorEq, Nat.reduceLT, Nat.reduceLeDiff, Nat.reduceEqDiff, Nat.reduceAdd, Nat.reduceMul, Nat.reducePow, Nat.reduceDiv, Nat.reduceMod, Nat.reduceOr, Int.reduceLE, Int.reduceLT, Int.reduceEq, Int.reduceAdd, Int.reduceSub, Int.reduceNeg, KF35, Tryz.f35, ha, hj', hw3, htj, List.any_append]
            | false => simp (disch := omega) only [go_sem, reduceCtorEq, Nat.reduceLT, Nat.reduceLeDiff, Nat.reduceEqDiff, Nat.reduceAdd, Nat.reduceMul, Nat.reducePow, Nat.reduceDiv, Nat.reduceMod, Nat.reduceOr, Int.reduceLE, Int.reduceLT, Int.reduceEq, Int.reduceAdd, Int.reduceSub, Int.reduceNeg, KF35, Tryz.f35, ha, hj', hz', hy', hw3, htj, pairD_eq, List.any_append, List.any_cons, List.any_nil]
        · simp (disch := omega) only [go_sem, reduceCtorEq, Nat.reduceLT, Nat.reduceLeDiff, Nat.reduceEqDiff, Nat.reduceAdd, Nat.reduceMul, Nat.reducePow, Nat.reduceDiv, Nat.reduceMod, Nat.reduceOr, Int.reduceLE, Int.reduceLT, Int.reduceEq, Int.reduceAdd, Int.reduceSub, Int.reduceNeg, KF35, Tryz.f35, hk', hy', hgx, eq_false hyx, hw2, hnext, addP, pairD_eq]
end Go.Abs
end

section
namespace Go.Abs
open Go.Proofs
set_option maxRecDepth 10000
set_option maxHeartbeats 8000000

theorem pairD_cells (p : Int × Int) : (pairD p).cells = [.int .i64 p.1, .int .i64 p.2] := rfl
theorem pairD_fold (p : Int × Int) : DV.agg [.int .i64 p.1, .int .i64 p.2] = pairD p := rfl
theorem law_Order (c : CallF) (t : RT) (m n : List Int)
    (hD : ∀ t : RT, c 10 [.dv t.dv, .dv (.int .i64 20)] [] [] 0 = some (.dv (.bool (t.deep 20)), []))
    (hT : c 12 [] [] [] 0 = some (.dv (.bool true), []))
    (hR : ∀ t : RT, t.Small → c 14 [.dv t.dv] [] [] 0 = some (.dv (.lst (t.regs.map (DV.int .i64))), []))
    (hM : ∀ (t : RT) (m : List Int), t.Small → c 20 [.dv t.dv, .dv (.lst (m.map (DV.int .i64)))] [] [] 0 = some (.dv (t.subst m).dv, []))
    (hS : ∀ a b : RT, a.Small → c 32 [.dv a.dv, .dv b.dv] [] [] 0 = some (lstAV (!a.same b) 32 ((a.subS b).map pairD), []))
    (hF : ∀ (l : List (Int × Int)) (p : Int × Int) (q : Int), l.length ≤ 1000000 → (p.1, q) ∈ l → (q, p.2) ∈ l → c 35 [.dv (.lst (l.map pairD)), .dv (pairD p)] [] [] 0 = some (.dv (.bool true), [])) :
    callStep TryzG 1000000 c 7 [.dv t.dv, .dv (.lst (m.map (DV.int .i64))), .dv (.lst (n.map (DV.int .i64)))] [] [] 0 = some (.dv (.bool true), []) := by
  rw [callStepW TryzG _ _ _ (G_fn 7 |>.trans Tryz.func7) rfl rfl]
  cases ht : t.deep 20 with
  | true => simp (disch := omega) only [go_sem, reduceCtorEq, Nat.reduceLT, Nat.reduceLeDiff, Nat.reduceEqDiff, Nat.reduceAdd, Nat.reduceMul, Nat.reducePow, Nat.reduceDiv, Nat.reduceMod, Nat.reduceOr, Int.reduceLE, Int.reduceLT, Int.reduceEq, Int.reduceAdd, Int.reduceSub, Int.reduceNeg, KF7, Tryz.f7, hD, hT, ht]
  | false =>
    by_cases hm : m.length ≤ 70
    · by_cases hn : n.length ≤ 70
      · have st : t.Small := ⟨20, by omega, ht⟩
        have hR := hR t st
        by_cases hr : t.regs.length ≤ 60
        · have s0 := hS t t st
          have hs1 : t.same (t.subst m) = true := RT.same_subst m t
          have hs2 : (t.subst m).same (t.subst n) = true := RT.same_subst2 m n t
          have hs3 : t.same (t.subst n) = true := RT.same_subst n t
          have sm := st.subst m
          have s1 := hS t (t.subst m) st
          have s2 := hS (t.subst m) (t.subst n) sm
          have s3 := hS t (t.subst n) st
          have l0 := st.sub t
          have l1 := st.sub (t.subst m)
          have l2 := sm.sub (t.subst n)
          have l3 := st.sub (t.subst n)
          have hv := RT.via hs1 hs2
          have hrf : ∀ p ∈ t.sub t, p.1 = p.2 := fun p => RT.sub_refl
          simp only [RT.subS, RT.same_refl, hs1, hs2, hs3, cond_true, Bool.not_true, lstAV_f] at s0 s1 s2 s3
          have m1 := hM t m st
          have m2 := hM t n st
          generalize t.sub t = tt at s0 l0 hrf
          generalize t.sub (t.subst m) = ab at s1 l1 hv
          generalize (t.subst m).sub (t.subst n) = bc at s2 l2 hv
          generalize t.sub (t.subst n) = ac at s3 l3 hv
          simp (disch := omega) only [go_sem, reduceCtorEq, Nat.reduceLT, Nat.reduceLeDiff, Nat.reduceEqDiff, Nat.reduceAdd, Nat.reduceMul, Nat.reducePow, Nat.reduceDiv, Nat.reduceMod, Nat.reduceOr, Int.reduceLE, Int.reduceLT, Int.reduceEq, Int.reduceAdd, Int.reduceSub, Int.reduceNeg, KF7, Tryz.f7, hD, hT, ht, hm, hn, hR, hr, s0]
          generalize hX : loopW _ _ _ _ _ _ _ _ = X
          apply loopT tt (fun i => [(8, .dv (.int .i64 (i : Nat)))]) (fun i => []) hX (by omega) rfl ?_ (fun i x hi hx => ?_) <;> clear hX
          · rcases ab with _ | ⟨y, r⟩ <;> rcases bc with _ | ⟨z, u⟩ <;> simp only [List.map_nil, List.map_cons, List.length_cons, List.length_nil] at s1 s2 l1 l2 <;> simp (disch := omega) only [go_sem, reduceCtorEq, Nat.reduceLT, Nat.reduceLeDiff, Nat.reduceEqDiff, Nat.reduceAdd, Nat.reduceMul, Nat.reducePow, Nat.reduceDiv, Nat.reduceMod, Nat.reduceOr, Int.reduceLE, Int.reduceLT, Int.reduceEq, Int.reduceAdd, Int.reduceSub, Int.reduceNeg, KF7, Tryz.f7, m1, m2, s1, s2, s3, pairD_cells]
            · have hlen : (([] : List (Int × Int)) ++ []).length ≤ 1000000 := by simp
              generalize hX : loopW _ _ _ _ _ _ _ _ = X
              apply loopT ac (fun i => [(14, .dv (.int .i64 (i : Nat)))]) (fun i => []) hX (by omega) rfl ?_ (fun i x hi hx => ?_) <;> clear hX
              · simp (disch := omega) only [go_sem, reduceCtorEq, Nat.reduceLT, Nat.reduceLeDiff, Nat.reduceEqDiff, Nat.reduceAdd, Nat.reduceMul, Nat.reducePow, Nat.reduceDiv, Nat.reduceMod, Nat.reduceOr, Int.reduceLE, Int.reduceLT, Int.reduceEq, Int.reduceAdd, Int.reduceSub, Int.reduceNeg, KF7, Tryz.f7, hT]
              · have hi' : ¬ ac.length ≤ i := by omega
                have hx' : (ac.map pairD)[i]? = some (pairD x) := by simp [hx]
                have hw := wrapS (i := i) (n := 1000000) (by omega) (by decide)
                obtain ⟨q, q1, q2⟩ := hv x (List.mem_of_getElem? hx)
                have hf := hF _ x q hlen q1 q2
                simp only [List.nil_append, List.append_nil, List.cons_append, List.map_append, List.map_cons, List.map_nil] at hf
                simp (disch := omega) only [go_sem, reduceCtorEq, Nat.reduceLT, Nat.reduceLeDiff, Nat.reduceEqDiff, Nat.reduceAdd, Nat.reduceMul, Nat.reducePow, Nat.reduceDiv, Nat.reduceMod, Nat.reduceOr, Int.reduceLE, Int.reduceLT, Int.reduceEq, Int.reduceAdd, Int.reduceSub, Int.reduceNeg, KF7, Tryz.f7, hi', hx', hw, hf, pairD_cells, pairD_fold]
            · have hlen : (([] : List (Int × Int)) ++ z :: u).length ≤ 1000000 := by simp; omega
              generalize hX : loopW _ _ _ _ _ _ _ _ = X
              apply loopT ac (fun i => [(14, .dv (.int .i64 (i : Nat)))]) (fun i => []) hX (by omega) rfl ?_ (fun i x hi hx => ?_) <;> clear hX
              · simp (disch := omega) only [go_sem, reduceCtorEq, Nat.reduceLT, Nat.reduceLeDiff, Nat.reduceEqDiff, Nat.reduceAdd, Nat.reduceMul, Nat.reducePow, Nat.reduceDiv, Nat.reduceMod, Nat.reduceOr, Int.reduceLE, Int.reduceLT, Int.reduceEq, Int.reduceAdd, Int.reduceSub, Int.reduceNeg, KF7, Tryz.f7, hT]
              · have hi' : ¬ ac.length ≤ i := by omega
                have hx' : (ac.map pairD)[i]? = some (pairD x) := by simp [hx]
                have hw := wrapS (i := i) (n := 1000000) (by omega) (by decide)
                obtain ⟨q, q1, q2⟩ := hv x (List.mem_of_getElem? hx)
                have hf := hF _ x q hlen q1 q2
                simp only [List.nil_append, List.append_nil, List.cons_append, List.map_append, List.map_cons, List.map_nil] at hf
                simp (disch := omega) only [go_sem, reduceCtorEq, Nat.reduceLT, Nat.reduceLeDiff, Nat.reduceEqDiff, Nat.reduceAdd, Nat.reduceMul, Nat.reducePow, Nat.reduceDiv, Nat.reduceMod, Nat.reduceOr, Int.reduceLE, Int.reduceLT, Int.reduceEq, Int.reduceAdd, Int.reduceSub, Int.reduceNeg, KF7, Tryz.f7, hi', hx', hw, hf, pairD_cells, pairD_fold]
            · have hlen : ((y :: r) ++ ([] : List (Int × Int))).length ≤ 1000000 := by simp; omega
              generalize hX : loopW _ _ _ _ _ _ _ _ = X
              apply loopT ac (fun i => [(14, .dv (.int .i64 (i : Nat)))]) (fun i => []) hX (by omega) rfl ?_ (fun i x hi hx => ?_) <;> clear hX
              · simp (disch := omega) only [go_sem, reduceCtorEq, Nat.reduceLT, Nat.reduceLeDiff, Nat.reduceEqDiff, Nat.reduceAdd, Nat.reduceMul, Nat.reducePow, Nat.reduceDiv, Nat.reduceMod, Nat.reduceOr, Int.reduceLE, Int.reduceLT, Int.reduceEq, Int.reduceAdd, Int.reduceSub, Int.reduceNeg, KF7, Tryz.f7, hT]
              · have hi' : ¬ ac.length ≤ i := by omega
                have hx' : (ac.map pairD)[i]? = some (pairD x) := by simp [hx]
                have hw := wrapS (i := i) (n := 1000000) (by omega) (by decide)
                obtain ⟨q, q1, q2⟩ := hv x (List.mem_of_getElem? hx)
                have hf := hF _ x q hlen q1 q2
                simp only [List.nil_append, List.append_nil, List.cons_append, List.map_append, List.map_cons, List.map_nil] at hf
                simp (disch := omega) only [go_sem, reduceCtorEq, Nat.reduceLT, Nat.reduceLeDiff, Nat.reduceEqDiff, Nat.reduceAdd, Nat.reduceMul, Nat.reducePow, Nat.reduceDiv, Nat.reduceMod, Nat.reduceOr, Int.reduceLE, Int.reduceLT, Int.reduceEq, Int.reduceAdd, Int.reduceSub, Int.reduceNeg, KF7, Tryz.f7, hi', hx', hw, hf, pairD_cells, pairD_fold]
            · have hlen : ((y :: r) ++ z :: u).length ≤ 1000000 := by simp; omega
              generalize hX : loopW _ _ _ _ _ _ _ _ = X
              apply loopT ac (fun i => [(14, .dv (.int .i64 (i : Nat)))]) (fun i => []) hX (by omega) rfl ?_ (fun i x hi hx => ?_) <;> clear hX
              · simp (disch := omega) only [go_sem, reduceCtorEq, Nat.reduceLT, Nat.reduceLeDiff, Nat.reduceEqDiff, Nat.reduceAdd, Nat.reduceMul, Nat.reducePow, Nat.reduceDiv, Nat.reduceMod, Nat.reduceOr, Int.reduceLE, Int.reduceLT, Int.reduceEq, Int.reduceAdd, Int.reduceSub, Int.reduceNeg, KF7, Tryz.f7, hT]
              · have hi' : ¬ ac.length ≤ i := by omega
                have hx' : (ac.map pairD)[i]? = some (pairD x) := by simp [hx]
                have hw := wrapS (i := i) (n := 1000000) (by omega) (by decide)
                obtain ⟨q, q1, q2⟩ := hv x (List.mem_of_getElem? hx)
                have hf := hF _ x q hlen q1 q2
                simp only [List.nil_append, List.append_nil, List.cons_append, List.map_append, List.map_cons, List.map_nil] at hf
                simp (disch := omega) only [go_sem, reduceCtorEq, Nat.reduceLT, Nat.reduceLeDiff, Nat.reduceEqDiff, Nat.reduceAdd, Nat.reduceMul, Nat.reducePow, Nat.reduceDiv, Nat.reduceMod, Nat.reduceOr, Int.reduceLE, Int.reduceLT, Int.reduceEq, Int.reduceAdd, Int.reduceSub, Int.reduceNeg, KF7, Tryz.f7, hi', hx', hw, hf, pairD_cells, pairD_fold]
          · have hi' : ¬ tt.length ≤ i := by omega
            have hx' : (tt.map pairD)[i]? = some (pairD x) := by simp [hx]
            have hw := wrapS (i := i) (n := 1000000) (by omega) (by decide)
            have he := hrf x (List.mem_of_getElem? hx)
            simp (disch := omega) only [go_sem, reduceCtorEq, Nat.reduceLT, Nat.reduceLeDiff, Nat.reduceEqDiff, Nat.reduceAdd, Nat.reduceMul, Nat.reducePow, Nat.reduceDiv, Nat.reduceMod, Nat.reduceOr, Int.reduceLE, Int.reduceLT, Int.reduceEq, Int.reduceAdd, Int.reduceSub, Int.reduceNeg, KF7, Tryz.f7, hi', hx', hw, he, pairD_cells]
        · simp (disch := omega) only [go_sem, reduceCtorEq, Nat.reduceLT, Nat.reduceLeDiff, Nat.reduceEqDiff, Nat.reduceAdd, Nat.reduceMul, Nat.reducePow, Nat.reduceDiv, Nat.reduceMod, Nat.reduceOr, Int.reduceLE, Int.reduceLT, Int.reduceEq, Int.reduceAdd, Int.reduceSub, Int.reduceNeg, KF7, Tryz.f7, hD, hT, ht, hm, hn, hR, hr]
      · simp (disch := omega) only [go_sem, reduceCtorEq, Nat.reduceLT, Nat.reduceLeDiff, Nat.reduceEqDiff, Nat.reduceAdd, Nat.reduceMul, Nat.reducePow, Nat.reduceDiv, Nat.reduceMod, Nat.reduceOr, Int.reduceLE, Int.reduceLT, Int.reduceEq, Int.reduceAdd, Int.reduceSub, Int.reduceNeg, KF7, Tryz.f7, hD, hT, ht, hm, hn]
    · simp (disch := omega) only [go_sem, reduceCtorEq, Nat.reduceLT, Nat.reduceLeDiff, Nat.reduceEqDiff, Nat.reduceAdd, Nat.reduceMul, Nat.reducePow, Nat.reduceDiv, Nat.reduceMod, Nat.reduceOr, Int.reduceLE, Int.reduceLT, Int.reduceEq, Int.reduceAdd, Int.reduceSub, Int.reduceNeg, KF7, Tryz.f7, hD, hT, ht, hm]
end Go.Abs
end

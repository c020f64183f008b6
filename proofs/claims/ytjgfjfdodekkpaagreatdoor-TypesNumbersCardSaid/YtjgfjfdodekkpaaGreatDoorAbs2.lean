/-
  A part of the proof of the seat's statements: a functional interpreter of the translated code and the proof that each call of the machine does what it says; no condition.
-/
import Derived.ChangeKeysEq
import Derived.MapKept
import Derived.Laws.AppendOwn
import Derived.Laws.MakeOwn
import Derived.Test.YtjgfjfdodekkpaaGreatDoorAbs1
set_option linter.all false

section
namespace Go.Abs

section
variable {G : Ctx} {Wr : Nat → Prop} {P : Program}
variable {g : Gh} {V : Vw} {st : St} {a : Act} {w : World} (hV : Shows V st) (h : Inv G Wr g st a.tmps w) (tie : Ties G P)

theorem eqItems_run {d : TypeDesc} {e : TypeId} (he : P.underlying e = some d) (n : Nat) {F : Fz} (us vs : Array Value) : ∀ (xs ys : List DV) (is : List Nat) (b : Bool), eqFlats d xs ys = some b → is.length = xs.length →
    (∀ (j i : Nat), is[j]? = some i → (∀ x : DV, xs[j]? = some x → ∃ u, us[i]? = some u ∧ Rep F x u) ∧ (∀ y : DV, ys[j]? = some y → ∃ u, vs[i]? = some u ∧ Rep F y u)) →
    (Op.eqItems (n + 1) e 1 us vs is).run P w = .ok b w
  | [], [], [], b, hb, _, _ => by simp only [eqFlats, Option.some.injEq] at hb; subst hb; simp [Op.eqItems]
  | [], _ :: _, _, b, hb, _, _ => by simp [eqFlats] at hb
  | _ :: _, [], _, b, hb, _, _ => by simp [eqFlats] at hb
  | [], [], _ :: _, b, hb, hl, _ => by simp at hl
  | _ :: _, _ :: _, [], b, hb, hl, _ => by simp at hl
  | x :: r, y :: q, i :: is, b, hb, hl, hi => by
    obtain ⟨h1, h2⟩ := hi 0 i rfl
    obtain ⟨u, hu, hru⟩ := h1 x rfl
    obtain ⟨v, hv, hrv⟩ := h2 y rfl
    simp only [eqFlats] at hb
    have hag : ∀ b', eqFlat d x y = some b' → (Op.eqItems (n + 1) e 1 us vs (i :: is)).run P w = if b' then (Op.eqItems (n + 1) e 1 us vs is).run P w else .ok false w := by
      intro b' hb'
      obtain ⟨hrun, hagg⟩ := eqFlat_run (P := P) (w := w) hb' hru hrv he n
      have hia : (isAgg e).run P w = .ok false w := by
        cases d <;> simp_all [isAgg, underlying, isAggT]
      simp only [Op.eqItems, part, Sem.run_bind, hia, Result.andThen_ok, Nat.mul_one, Bool.false_eq_true, if_false, hu, hv, Sem.run_pure, hrun]
      cases b' <;> simp
    split at hb
    · rename_i heq
      rw [hag true heq]
      simp only [if_true]
      exact eqItems_run he n us vs r q is b hb (by simpa using hl) (fun j i' hj => by simpa using hi (j + 1) i' (by simpa using hj))
    · rename_i heq
      simp only [Option.some.injEq] at hb; subst hb
      rw [hag false heq]; rfl
    · cases hb

include tie in
theorem eqRow_run {n : Nat} {T e : TypeId} {xs ys : List DV} {b : Bool} (hu : G.und T = some (.array n e)) (hb : eqRow G n e xs ys = some b) {F : Fz} {u v : Value} (hru : Rep F (.agg xs) u) (hrv : Rep F (.agg ys) v) :
    (∀ m, (Op.equalIn (m + 2) T u v).run P w = .ok b w) ∧ ∃ us vs, u = .agg us ∧ v = .agg vs ∧ P.eqGuardType P.depth T = false := by
  unfold eqRow at hb
  split at hb
  · rename_i d hd h1
    cases hl : basicT d && (Nat.beq xs.length n && Nat.beq ys.length n) with
    | false => rw [hl] at hb; cases hb
    | true =>
      rw [hl] at hb
      simp only [cond_true] at hb
      simp only [beq_dec, Bool.and_eq_true, decide_eq_true_eq] at hl
      simp only [Rep] at hru hrv
      obtain ⟨us, rfl, hus⟩ := hru
      obtain ⟨vs, rfl, hvs⟩ := hrv
      rw [RepL_iff] at hus hvs
      obtain ⟨i, hi, hsz⟩ := tie.size h1
      have hd' := tie.und e d hd
      refine ⟨?_, us, vs, rfl, rfl, ?_⟩
      · intro m
        rw [run_equalIn_array w (m + 1) us vs (tie.und T _ hu) hi]
        have hc : P.cellsOf e = 1 := by simp [Program.cellsOf, hi, hsz]
        rw [hc]
        refine eqItems_run hd' m (F := F) us vs xs ys (List.range n) b hb (by simp [hl.2.1]) ?_
        intro j i' hj
        have hj' := (List.getElem?_eq_some_iff.1 hj)
        obtain ⟨hjl, hj'⟩ := hj'
        simp only [List.getElem_range] at hj'
        subst hj'
        exact ⟨fun x hx => by simpa using hus.2 j x hx, fun y hy => by simpa using hvs.2 j y hy⟩
      · have hdep : P.depth = (P.depth - 2) + 2 := by unfold Program.depth; omega
        rw [hdep]
        simp only [Program.eqGuardType, tie.und T _ hu, hd']
        cases d <;> simp_all [basicT]
  · cases hb

theorem eqGuard_nil (op : BinOp) (T : TypeId) (x y : Operand) (hc : (isConst x || isConst y) = true) : (eqGuard op T x y .nilIface .nilIface).run P w = .ok () w := by
  cases x <;> cases y <;> simp only [isConst, Bool.or_self, Bool.or_true, Bool.true_or, Bool.false_eq_true] at hc <;> cases op <;> rfl

set_option maxHeartbeats 4000000 in
/-- '==' of what is neither a number nor a text. -/
theorem eqAV_run (tie : Ties G P) {T : TypeId} {d : TypeDesc} (hu : G.und T = some d) {A B : AV} {b : Bool} (hb : eqAV G d A B = some b) {F : Fz} {θ T'} {u v : Value} (hA : VRel F θ T' A u) (hB : VRel F θ T' B v) (x y : Operand) :
    (∀ m, (Op.equalIn (m + 2) T u v).run P w = .ok b w) ∧ (∀ op, (eqGuard op T x y u v).run P w = .ok () w) ∧ binOp .eql T u v = (do pure (.bool (← Op.equal T u v))) ∧ binOp .neq T u v = (do pure (.bool (!(← Op.equal T u v)))) := by
  have hu' := tie.und T d hu
  unfold eqAV at hb
  split at hb
  all_goals try (cases hb; done)
  all_goals try simp only [Option.some.injEq] at hb
  all_goals try subst hb
  all_goals simp only [VRel] at hA hB
  case h_1 =>
    simp only [Rep] at hA hB; subst hA hB
    exact ⟨fun m => by simp only [Op.equalIn, Sem.run_bind, tie.run_und hu, Result.andThen_ok]; rfl, fun op => by unfold eqGuard; split <;> rfl, by unfold binOp; rfl, by unfold binOp; rfl⟩
  case h_2 =>
    simp only [Rep] at hA hB; subst hA hB
    exact ⟨fun m => by simp only [Op.equalIn, Sem.run_bind, tie.run_und hu, Result.andThen_ok]; rfl, fun op => by unfold eqGuard; split <;> rfl, by unfold binOp; rfl, by unfold binOp; rfl⟩
  case h_3 =>
    simp only [Rep] at hA hB; subst hA
    obtain ⟨b1, o1, rfl, _⟩ := hB
    exact ⟨fun m => by simp only [Op.equalIn, Sem.run_bind, tie.run_und hu, Result.andThen_ok]; rfl, fun op => by unfold eqGuard; split <;> rfl, by unfold binOp; rfl, by unfold binOp; rfl⟩
  case h_4 =>
    simp only [Rep] at hA; subst hA
    obtain ⟨rfl, _⟩ := hB
    exact ⟨fun m => by simp only [Op.equalIn, Sem.run_bind, tie.run_und hu, Result.andThen_ok]; rfl, fun op => by unfold eqGuard; split <;> rfl, by unfold binOp; rfl, by unfold binOp; rfl⟩
  case h_5 =>
    simp only [Rep] at hA hB; subst hB
    obtain ⟨b1, o1, rfl, _⟩ := hA
    exact ⟨fun m => by simp only [Op.equalIn, Sem.run_bind, tie.run_und hu, Result.andThen_ok]; rfl, fun op => by unfold eqGuard; split <;> rfl, by unfold binOp; rfl, by unfold binOp; rfl⟩
  case h_6 =>
    simp only [Rep] at hB; subst hB
    obtain ⟨rfl, _⟩ := hA
    exact ⟨fun m => by simp only [Op.equalIn, Sem.run_bind, tie.run_und hu, Result.andThen_ok]; rfl, fun op => by unfold eqGuard; split <;> rfl, by unfold binOp; rfl, by unfold binOp; rfl⟩
  case h_7 =>
    simp only [Rep] at hA hB; subst hA
    obtain ⟨b1, rfl, _⟩ := hB
    exact ⟨fun m => by simp only [Op.equalIn, Sem.run_bind, tie.run_und hu, Result.andThen_ok]; rfl, fun op => by unfold eqGuard; split <;> rfl, by unfold binOp; rfl, by unfold binOp; rfl⟩
  case h_8 =>
    simp only [Rep] at hA hB; subst hB
    obtain ⟨b1, rfl, _⟩ := hA
    exact ⟨fun m => by simp only [Op.equalIn, Sem.run_bind, tie.run_und hu, Result.andThen_ok]; rfl, fun op => by unfold eqGuard; split <;> rfl, by unfold binOp; rfl, by unfold binOp; rfl⟩
  case h_9 =>
    obtain ⟨h1, us, vs, rfl, rfl, h2⟩ := eqRow_run (w := w) tie hu hb hA hB
    exact ⟨h1, fun op => run_eqGuard_agg w _ _ _ _ _ _ h2, by unfold binOp; rfl, by unfold binOp; rfl⟩

set_option maxHeartbeats 4000000 in
include hV h tie in
theorem binOp_simple {op : BinOp} {T T2 : TypeId} {x y : Operand} {out : Out} (hm : binOut G V op T x y = some out) {o : Oper} (ho : o.op = .binOp op T x y T2) : Simple G Wr g V st a w out ((execOp a.eval o).run P w) := by
  have hexec : execOp a.eval o = (do pure (.value (← (do eqGuard op T x y (a.eval x) (a.eval y); binOp op T (a.eval x) (a.eval y) : Sem Value))) : Sem Next) := by simp [execOp, ho]
  rw [hexec]
  unfold binOut at hm
  split at hm
  · rename_i k m k' n hx hy
    have h1 := opnd_rel hV h hx (by simp) rfl
    have h2 := opnd_rel hV h hy (by simp) rfl
    simp only [VRel, Rep] at h1 h2
    split at hm
    · rename_i d hd
      simp only [Option.some.injEq] at hm; subst hm
      cases hk : kindEq k k' with
      | false => rw [hk] at hd; cases hd
      | true =>
        rw [hk] at hd
        rw [kindEq_iff] at hk; subst hk
        obtain ⟨v, h3, h4⟩ := intBin_run (P := P) (w := w) hd
        rw [h1, h2]
        exact Simple.dv (v := v) (by simp only [Sem.run_bind, eqGuard_int, Result.andThen_ok, h3]; rfl) (h4 _)
    · cases hm
  · rename_i m n hx hy
    have h1 := opnd_rel hV h hx (by simp) rfl
    have h2 := opnd_rel hV h hy (by simp) rfl
    simp only [VRel, Rep] at h1 h2
    split at hm
    · rename_i d hd
      simp only [Option.some.injEq] at hm; subst hm
      obtain ⟨v, h3, h4⟩ := strBin_run (P := P) (w := w) (T := T) hd
      rw [h1, h2]
      exact Simple.dv (v := v) (by simp only [Sem.run_bind, eqGuard_str, Result.andThen_ok, h3]; rfl) (h4 _)
    · cases hm
  · rename_i hx hy
    have h1 := opnd_rel hV h hx (by simp) rfl
    have h2 := opnd_rel hV h hy (by simp) rfl
    simp only [VRel, Rep] at h1 h2
    rw [h1, h2]
    cases hc : isConst x || isConst y with
    | false => rw [hc] at hm; cases hm
    | true =>
      rw [hc] at hm
      simp only [cond_true] at hm
      have hg : ∀ op, (eqGuard op T x y .nilIface .nilIface).run P w = .ok () w := by
        intro op
        exact eqGuard_nil op T x y hc
      split at hm
      · rename_i ms hu
        simp only [Option.some.injEq] at hm; subst hm
        have : (Op.equal T .nilIface .nilIface).run P w = .ok true w := by
          show (Op.equalIn (9999 + 1) T .nilIface .nilIface).run P w = .ok true w
          generalize 9999 = m
          simp [Op.equalIn, underlying, tie.und T _ hu]
        exact Simple.dv (v := .bool true) (by simp only [Sem.run_bind, hg, Result.andThen_ok, binOp, this]; rfl) (by simp only [Rep])
      · rename_i ms hu
        simp only [Option.some.injEq] at hm; subst hm
        have : (Op.equal T .nilIface .nilIface).run P w = .ok true w := by
          show (Op.equalIn (9999 + 1) T .nilIface .nilIface).run P w = .ok true w
          generalize 9999 = m
          simp [Op.equalIn, underlying, tie.und T _ hu]
        exact Simple.dv (v := .bool false) (by simp only [Sem.run_bind, hg, Result.andThen_ok, binOp, this]; rfl) (by simp only [Rep])
      · cases hm
  · rename_i A B _ _ _ hx hy
    split at hm
    · rename_i d hu
      cases he : eqAV G d A B with
      | none => rw [he] at hm; simp at hm
      | some b =>
        rw [he] at hm
        have hnoA : (∀ e xs, A ≠ .own e xs) ∧ isView A = false := by
          unfold eqAV at he
          split at he <;> first | (cases he; done) | exact ⟨by simp, rfl⟩
        have hnoB : (∀ e xs, B ≠ .own e xs) ∧ isView B = false := by
          unfold eqAV at he
          split at he <;> first | (cases he; done) | exact ⟨by simp, rfl⟩
        have h1 := opnd_rel hV h hx hnoA.1 hnoA.2
        have h2 := opnd_rel hV h hy hnoB.1 hnoB.2
        obtain ⟨k1, k2, k3, k4⟩ := eqAV_run (w := w) tie hu he h1 h2 x y
        have k1' : (Op.equal T (a.eval x) (a.eval y)).run P w = .ok b w := k1 9998
        split at hm
        · rename_i heq
          simp only [Option.some.injEq] at heq hm
          subst heq hm
          exact Simple.dv (v := .bool b) (by simp only [Sem.run_bind, k2, Result.andThen_ok, k3, k1']; rfl) (by simp only [Rep])
        · rename_i heq
          simp only [Option.some.injEq] at heq hm
          subst heq hm
          exact Simple.dv (v := .bool !b) (by simp only [Sem.run_bind, k2, Result.andThen_ok, k4, k1']; rfl) (by simp only [Rep])
        · cases hm
    · cases hm
  · cases hm

end
end Go.Abs
end

section
namespace Go.Abs

section
variable {G : Ctx} {Wr : Nat → Prop} {P : Program}
variable {g : Gh} {V : Vw} {st : St} {a : Act} {w : World} (hV : Shows V st) (h : Inv G Wr g st a.tmps w) (tie : Ties G P)

include hV h in
theorem look_rep {x : Operand} {d : DV} (hx : look V x = some d) : (∃ xs, d = .lst xs ∧ ∃ q cap, a.eval x = .slice q xs.length cap) ∨ ((∀ xs, d ≠ .lst xs) ∧ Rep g.F d (a.eval x)) := by
  unfold look at hx
  split at hx
  · rename_i e xs hx'
    obtain ⟨t, rfl, ht, h1, h2⟩ := opnd_own hV h hx'
    simp only [Option.some.injEq] at hx; subst hx
    obtain ⟨q, cap, hq⟩ := h2.header
    exact .inl ⟨xs, rfl, q, cap, hq⟩
  · rename_i o k hx'
    obtain ⟨t, rfl, ht, h1, h2⟩ := opnd_view hV h hx' rfl
    split at hx
    · rename_i l hl
      simp only [Option.some.injEq] at hx; subst hx
      simp only [ViewRel] at h2
      obtain ⟨xs, q, cap, hat, hpv, hev, hk⟩ := h2
      refine .inl ⟨l, rfl, q, cap, ?_⟩
      rw [hev]
      have : l.length = k := by
        unfold see at hl
        split at hl
        · rename_i e' zs hz
          have := hV.at_ (o := o) (by rw [hz]; simp)
          rw [hz] at this
          simp only [Option.some.injEq] at hl
          rcases hat with ⟨e2, hat⟩ | hat
          · rw [this] at hat; simp only [AV.own.injEq] at hat; rw [← hl, hat.2]; simp; omega
          · rw [this] at hat; cases hat
        · rename_i zs hz
          have := hV.at_ (o := o) (by rw [hz]; simp)
          rw [hz] at this
          simp only [Option.some.injEq] at hl
          rcases hat with ⟨e2, hat⟩ | hat
          · rw [this] at hat; cases hat
          · rw [this] at hat; simp only [AV.dv.injEq, DV.lst.injEq] at hat; rw [← hl, hat]; simp; omega
        · cases hl
      rw [this]
    · cases hx
  · rename_i A hno hnv hx'
    have hv : isView A = false := by cases A <;> simp_all [isView, AV.toDV]
    have h1 := opnd_rel hV h hx' (fun e xs he => hno e xs he) hv
    have h2 := toDV_rep A d _ hx h1
    cases d with
    | lst xs =>
      obtain ⟨q, cap, hq⟩ := h2.lst_len
      exact .inl ⟨xs, rfl, q, cap, hq⟩
    | _ => exact .inr ⟨by simp, h2⟩
  · cases hx

include hV h tie in
theorem len_simple {T : TypeId} {x : Operand} {out : Out} (hm : lenOut G V T x = some out) {o : Oper} {c : Call} (ho : o.op = .call c) (hc : c.callee = .builtin .len) (hxs : c.args = #[x]) (hts : c.argTypes = #[T]) :
    Simple G Wr g V st a w out ((execOp a.eval o).run P w) := by
  have hexec : execOp a.eval o = (do pure (.value (← Builtin.len_ #[T] o.type #[a.eval x])) : Sem Next) := by
    simp [execOp, ho, resolve, hc, hxs, hts, invoke, builtin]
  rw [hexec]
  unfold lenOut at hm
  split at hm
  · rename_i b hu hx
    simp only [Option.some.injEq] at hm; subst hm
    rcases look_rep hV h hx with ⟨xs, hd, _⟩ | ⟨_, h1⟩
    · cases hd
    · simp only [Rep] at h1
      rw [h1]
      exact Simple.dv (v := .int .i64 b.size) (by simp [Builtin.len_, underlying, tie.und T _ hu, goInt]) (by simp only [Rep, length_data])
  · rename_i e xs hu hx
    simp only [Option.some.injEq] at hm; subst hm
    rcases look_rep hV h hx with ⟨ys, hd, q, cap, h1⟩ | ⟨hno, _⟩
    · simp only [DV.lst.injEq] at hd; subst hd
      rw [h1]
      exact Simple.dv (v := .int .i64 xs.length) (by simp [Builtin.len_, underlying, tie.und T _ hu, goInt]) (by simp only [Rep])
    · exact absurd rfl (hno xs)
  · cases hm

include hV h in
theorem extract_simple {t : Operand} {j : Nat} {out : Out} (hm : extractOut V t j = some out) {o : Oper} (ho : o.op = .extract t j) : Simple G Wr g V st a w out ((execOp a.eval o).run P w) := by
  unfold extractOut at hm
  split at hm
  · rename_i vs hx
    split at hm
    · rename_i A hA
      simp only [Option.some.injEq] at hm; subst hm
      have h1 := opnd_rel hV h hx (by simp) rfl
      simp only [VRel] at h1
      obtain ⟨us, h1, h2⟩ := h1
      rw [VRelL_iff] at h2
      obtain ⟨u, hu, hr⟩ := h2.2 j A hA
      have hu' : us[j]? = some u := by simpa using hu
      exact Simple.plain (v := u) (by simp [execOp, ho, h1, Instr.extract, hu']) hr.notView hr
    · cases hm
  · cases hm

include hV h tie in
theorem index_simple {T : TypeId} {x j : Operand} {out : Out} (hm : indexOut G V T x j = some out) {o : Oper} (ho : o.op = .index T x j) : Simple G Wr g V st a w out ((execOp a.eval o).run P w) := by
  unfold indexOut at hm
  split at hm
  · rename_i i b hi hx hu
    split at hm
    · rename_i c hc
      simp only [Option.some.injEq] at hm; subst hm
      obtain ⟨kk, hkk⟩ := idxOf_eval hV h hi
      have h1 := scalar_rep hV h hx
      simp only [Rep] at h1
      have hb : b[i]? = some c := by
        have hlt := (List.getElem?_eq_some_iff.1 hc)
        obtain ⟨hlt, hget⟩ := hlt
        have hlt' : i < b.size := by rw [← length_data]; exact hlt
        rw [getElem?_pos b i hlt']
        congr 1
      refine Simple.dv (v := .int .u8 c.toNat) ?_ (by simp only [Rep])
      simp [execOp, ho, hkk, h1, Instr.index, asIntOf, tie.run_und hu, hb]
    · cases hm
  · cases hm

end
end Go.Abs
end

section
namespace Go.Abs

section
variable {G : Ctx} {Wr : Nat → Prop} {P : Program}
variable {g : Gh} {V : Vw} {st : St} {a : Act} {w : World} (hV : Shows V st) (h : Inv G Wr g st a.tmps w) (tie : Ties G P)

theorem joinA_rel {F : Fz} {θ T} {agg : Bool} {cs : List AV} {A : AV} {us : List Value} (hj : AV.join agg cs = some A) (hr : VRelL F θ T cs us) : ∃ v, joinV agg us = some v ∧ VRel F θ T A v := by
  cases agg with
  | true =>
    simp only [AV.join, Option.some.injEq] at hj
    subst hj
    exact ⟨_, rfl, by simp only [VRel]; exact ⟨_, rfl, by simpa using hr⟩⟩
  | false =>
    match cs, hj with
    | [c], hj =>
      simp only [AV.join, Option.some.injEq] at hj
      subst hj
      simp only [VRelL] at hr
      obtain ⟨v, l', rfl, hd, rfl⟩ := hr
      exact ⟨v, rfl, hd⟩

theorem run_part (tie : Ties G P) {T : TypeId} {n : Nat} {agg : Bool} (hn : G.size T = some n) (ha : G.agg T = some agg) (us : Array Value) (off : Nat) {v : Value}
    (hv : joinV agg ((us.toList.drop off).take n) = some v) : (part T us off).run P w = .ok v w := by
  cases agg with
  | true =>
    simp only [joinV, Option.some.injEq] at hv
    subst hv
    simp only [part, Sem.run_bind, tie.run_agg ha, Result.andThen_ok, if_true, tie.run_size hn, Sem.run_pure]
    congr 2
    apply Array.ext'
    simp [List.extract_eq_drop_take']
  | false =>
    simp only [part, Sem.run_bind, tie.run_agg ha, Result.andThen_ok, Bool.false_eq_true, if_false]
    generalize hl : (us.toList.drop off).take n = l at hv
    match l, hv with
    | [u], hv =>
      simp only [joinV, Option.some.injEq] at hv
      subst hv
      have : us[off]? = some u := by
        have h0 : ((us.toList.drop off).take n)[0]? = some u := by rw [hl]; rfl
        rw [List.getElem?_take] at h0
        split at h0
        · simpa using h0
        · cases h0
      rw [this]; rfl

theorem RepL.cut {F : Fz} {cs : List DV} {us : List Value} (h : RepL F cs us) {off n : Nat} {l : List DV} (hc : cut cs off n = some l) : RepL F l ((us.drop off).take n) := by
  rw [RepL_iff] at h ⊢
  obtain ⟨h1, h2, h3⟩ := cut_get hc
  refine ⟨by simp; omega, fun j d hj => ?_⟩
  obtain ⟨v, hv, hd⟩ := h.2 (off + j) d (h3 j d hj)
  refine ⟨v, ?_, hd⟩
  have : j < n := by rw [← h1]; exact (List.getElem?_eq_some_iff.1 hj).1
  show ((us.drop off).take n)[j]? = some v
  rw [List.getElem?_take, if_pos this, List.getElem?_drop]; exact hv
theorem VRelL.cut {F : Fz} {θ T} {cs : List AV} {us : List Value} (h : VRelL F θ T cs us) {off n : Nat} {l : List AV} (hc : cut cs off n = some l) : VRelL F θ T l ((us.drop off).take n) := by
  rw [VRelL_iff] at h ⊢
  obtain ⟨h1, h2, h3⟩ := cut_get hc
  refine ⟨by simp; omega, fun j d hj => ?_⟩
  obtain ⟨v, hv, hd⟩ := h.2 (off + j) d (h3 j d hj)
  refine ⟨v, ?_, hd⟩
  have : j < n := by rw [← h1]; exact (List.getElem?_eq_some_iff.1 hj).1
  rw [List.getElem?_take, if_pos this, List.getElem?_drop]; exact hv

include hV h tie in
theorem field_simple {T : TypeId} {x : Operand} {f : Nat} {out : Out} (hm : fieldOut G V T x f = some out) {o : Oper} (ho : o.op = .field T x f) : Simple G Wr g V st a w out ((execOp a.eval o).run P w) := by
  unfold fieldOut at hm
  split at hm
  · rename_i fields hu
    split at hm
    · rename_i fd hf
      have hf' : fields[f]? = some fd := by simpa using hf
      split at hm
      · rename_i n agg cs hn ha hx
        split at hm
        · rename_i l hc
          split at hm
          · rename_i d hd
            simp only [Option.some.injEq] at hm; subst hm
            have h1 := opnd_rel hV h hx (by simp) rfl
            simp only [VRel, Rep] at h1
            obtain ⟨us, h1, h2⟩ := h1
            obtain ⟨v, h3, h4⟩ := join_rep hd (h2.cut hc)
            refine Simple.dv (v := v) ?_ h4
            simp [execOp, ho, h1, Instr.field, tie.run_und hu, hf', asAgg, run_part tie hn ha us fd.offset h3]
          · cases hm
        · cases hm
      · rename_i n agg cs hn ha hx
        split at hm
        · rename_i l hc
          split at hm
          · rename_i A hA
            simp only [Option.some.injEq] at hm; subst hm
            have h1 := opnd_rel hV h hx (by simp) rfl
            simp only [VRel] at h1
            obtain ⟨us, h1, h2⟩ := h1
            obtain ⟨v, h3, h4⟩ := joinA_rel hA (h2.cut hc)
            refine Simple.plain (v := v) ?_ (isView_tidy _ h4.notView) (tidy_rel _ _ h4)
            simp [execOp, ho, h1, Instr.field, tie.run_und hu, hf', asAgg, run_part tie hn ha us fd.offset h3]
          · cases hm
        · cases hm
      · cases hm
    · cases hm
  · cases hm

end
end Go.Abs
end

section
namespace Go.Abs

section
variable {G : Ctx} {Wr : Nat → Prop} {P : Program}
variable {g : Gh} {V : Vw} {st : St} {a : Act} {w : World} (hV : Shows V st) (h : Inv G Wr g st a.tmps w) (tie : Ties G P)

theorem ofCells_rel (F : Fz) (θ T) : ∀ {vs : List Value} {cs : List AV}, ofCells vs = some cs → VRelL F θ T cs vs
  | [], cs, h => by simp only [ofCells, Option.some.injEq] at h; subst h; simp [VRelL]
  | v :: r, cs, h => by
    simp only [ofCells] at h
    split at h
    · rename_i A l h1 h2
      simp only [Option.some.injEq] at h; subst h
      simp only [VRelL]
      exact ⟨v, r, rfl, (ofVal_rel h1 F θ T).1, ofCells_rel F θ T h2⟩
    · cases h

/-- A type's zero value as deep data. -/
theorem zeroDV_run (tie : Ties G P) {T : TypeId} {d : DV} (hz : G.zeroDV T = some d) (w : World) : ∃ v i, P.info? T = some i ∧ i.zero = some v ∧ (zeroValue T).run P w = .ok v w ∧ ∀ F, Rep F d v := by
  unfold Ctx.zeroDV at hz
  split at hz
  · rename_i cs n b hi
    obtain ⟨i, h1, h2, h3, h4⟩ := tie.inf _ _ _ _ hi
    split at hz
    · rename_i l hl
      split at hz
      · rename_i ds hds
        simp only [Option.some.injEq] at hz; subst hz
        refine ⟨_, i, h1, h2, by simp [zeroValue, typeInfo, h1, h2], fun F => ?_⟩
        simp only [Rep]
        exact ⟨cs, rfl, toDVs_rep (θ := id) (T := fun _ => none) l ds _ hds (ofCells_rel F id (fun _ => none) hl)⟩
      · cases hz
    · cases hz
  · rename_i z n b hno hi
    obtain ⟨i, h1, h2, h3, h4⟩ := tie.inf _ _ _ _ hi
    split at hz
    · rename_i A hA
      refine ⟨_, i, h1, h2, by simp [zeroValue, typeInfo, h1, h2], fun F => ?_⟩
      exact toDV_rep (θ := id) (T := fun _ => none) A d _ hz (ofVal_rel hA F id (fun _ => none)).1
    · cases hz
  · cases hz

theorem tup_rel {F : Fz} {θ T} {A : AV} {v : Value} (b : Bool) (h : VRel F θ T A v) : VRel F θ T (.tup [A, .dv (.bool b)]) (.tuple #[v, .bool b]) := by
  simp only [VRel]
  exact ⟨_, rfl, by simp only [VRelL, VRel, Rep]; exact ⟨v, [.bool b], rfl, h, .bool b, [], rfl, rfl, rfl⟩⟩

include hV h tie in
theorem assert_simple {x : Operand} {X T : TypeId} {ok : Bool} {out : Out} (hm : assertOut G V x T ok = some out) {o : Oper} (ho : o.op = .typeAssert x X T ok) : Simple G Wr g V st a w out ((execOp a.eval o).run P w) := by
  have hexec : execOp a.eval o = (do pure (.value (← Instr.typeAssert (a.eval x) X T ok)) : Sem Next) := by simp [execOp, ho]
  rw [hexec]
  unfold assertOut at hm
  split at hm
  · cases hm
  · rename_i d z hno hu hx hz
    have h1 := scalar_rep hV h hx
    simp only [Rep] at h1
    obtain ⟨zv, i, k1, k2, k3, k4⟩ := zeroDV_run tie hz w
    cases ok with
    | false => cases hm
    | true =>
      simp only [cond_true, Option.some.injEq] at hm; subst hm
      rw [h1]
      refine Simple.plain (v := .tuple #[zv, .bool false]) ?_ rfl (tup_rel false (by simpa only [VRel] using k4 _))
      cases d <;> first
        | exact (hno _ rfl).elim
        | simp [Instr.typeAssert, underlying, tie.und T _ hu, k3]
  · rename_i d t v z hno hu hx hz
    have h1 := scalar_rep hV h hx
    simp only [Rep] at h1
    obtain ⟨u, h1, h2⟩ := h1
    obtain ⟨zv, i, k1, k2, k3, k4⟩ := zeroDV_run tie hz w
    rw [h1]
    cases ht : Nat.beq t T with
    | true =>
      rw [ht] at hm
      rw [beq_dec] at ht
      have ht' : t = T := by simpa using ht
      subst ht'
      simp only [cond_true, Option.some.injEq] at hm; subst hm
      cases ok with
      | true =>
        refine Simple.plain (v := .tuple #[u, .bool true]) ?_ rfl (tup_rel true (by simpa only [VRel] using h2))
        cases d <;> first
          | exact (hno _ rfl).elim
          | simp [Instr.typeAssert, underlying, tie.und t _ hu]
      | false =>
        refine Simple.dv (v := u) ?_ h2
        cases d <;> first
          | exact (hno _ rfl).elim
          | simp [Instr.typeAssert, underlying, tie.und t _ hu]
    | false =>
      rw [ht] at hm
      rw [beq_dec] at ht
      have ht' : t ≠ T := by simpa using ht
      cases ok with
      | false => cases hm
      | true =>
        simp only [cond_true, cond_false, Option.some.injEq] at hm; subst hm
        refine Simple.plain (v := .tuple #[zv, .bool false]) ?_ rfl (tup_rel false (by simpa only [VRel] using k4 _))
        cases d <;> first
          | exact (hno _ rfl).elim
          | simp [Instr.typeAssert, underlying, tie.und T _ hu, k3, ht']
  · cases hm

end
end Go.Abs
end

section
namespace Go.Abs

section
variable {G : Ctx} {Wr : Nat → Prop} {P : Program}
variable {g : Gh} {V : Vw} {st : St} {a : Act} {w : World} (hV : Shows V st) (h : Inv G Wr g st a.tmps w) (tie : Ties G P)

include hV h in
theorem optIdx_eval {x : Option Operand} {d n : Nat} (hx : optIdx V x d = some n) : (x = none ∧ n = d) ∨ ∃ k, x.map a.eval = some (.int k (n : Int)) := by
  unfold optIdx at hx
  split at hx
  · simp only [Option.some.injEq] at hx; exact .inl ⟨rfl, hx.symm⟩
  · obtain ⟨k, hk⟩ := idxOf_eval hV h hx
    exact .inr ⟨k, by simp [hk]⟩

theorem run_bound (k : IntKind) (i y : Nat) (code : BoundsCode) (hi : i ≤ y) (w : World) : (Instr.sliceBound (.int k (i : Int)) y code).run P w = .ok i w := by
  have : ((i : Nat) : Int) ≤ (y : Int) := by omega
  simp [Instr.sliceBound, asIntOf, this]

/-- The bounds of a slice. -/
theorem run_bounds (sl : Bool) {len cap l hh : Nat} {lo hi : Option Value} (hhi : (hi = none ∧ hh = len) ∨ ∃ k, hi = some (.int k (hh : Int))) (hlo : (lo = none ∧ l = 0) ∨ ∃ k, lo = some (.int k (l : Int)))
    (h1 : l ≤ hh) (h2 : hh ≤ cap) (w : World) : (Instr.sliceBounds sl len cap lo hi none).run P w = .ok (l, hh, cap) w := by
  rcases hhi with ⟨rfl, rfl⟩ | ⟨k, rfl⟩ <;> rcases hlo with ⟨rfl, rfl⟩ | ⟨k', rfl⟩ <;>
    simp [Instr.sliceBounds, run_bound _ _ _ _ h1, run_bound _ _ _ _ h2]

theorem optVal {lo : Option Operand} {d n : Nat} (hx : (lo = none ∧ n = d) ∨ ∃ k, lo.map a.eval = some (.int k (n : Int))) : (lo.map a.eval = none ∧ n = d) ∨ ∃ k, lo.map a.eval = some (.int k (n : Int)) :=
  hx.imp (fun h => ⟨by rw [h.1]; rfl, h.2⟩) id

theorem run_slice (tie : Ties G P) {T e : TypeId} (hu : G.und T = some (.slice e)) {k : Nat} (hk : G.size e = some k) {q : Option Addr} {len cap l hh : Nat} {lo hi : Option Value}
    (hhi : (hi = none ∧ hh = len) ∨ ∃ k, hi = some (.int k (hh : Int))) (hlo : (lo = none ∧ l = 0) ∨ ∃ k, lo = some (.int k (l : Int))) (h1 : l ≤ hh) (h2 : hh ≤ cap) (w : World) :
    (Instr.sliceAt T (.slice q len cap) lo hi none).run P w = .ok (.slice (if cap = l then q else q.map (·.add (l * k))) (hh - l) (cap - l)) w := by
  simp only [Instr.sliceAt, Sem.run_bind, tie.run_und hu, Result.andThen_ok, Instr.slice, run_bounds true hhi hlo h1 h2, tie.run_size hk, Sem.run_pure]

theorem run_slice0 (tie : Ties G P) {T e : TypeId} (hu : G.und T = some (.slice e)) {k : Nat} (hk : G.size e = some k) {q : Option Addr} {len cap hh : Nat} {lo hi : Option Value}
    (hhi : (hi = none ∧ hh = len) ∨ ∃ k, hi = some (.int k (hh : Int))) (hlo : (lo = none ∧ 0 = 0) ∨ ∃ k, lo = some (.int k ((0 : Nat) : Int))) (h2 : hh ≤ cap) (w : World) :
    (Instr.sliceAt T (.slice q len cap) lo hi none).run P w = .ok (.slice q hh cap) w := by
  rw [run_slice tie hu hk hhi hlo (Nat.zero_le _) h2 w]
  have : q.map (fun x : Addr => x.add (0 * k)) = q := by
    cases q with
    | none => rfl
    | some x => simp [Addr.add]
  simp only [this, ite_self, Nat.sub_zero]

theorem Rep.drop {F : Fz} {xs : List DV} {q : Option Addr} {n cap l k : Nat} (h : Rep F (.lst xs) (.slice q n cap)) (hl : l ≤ xs.length) (hk : headSize k xs = true) :
    Rep F (.lst (xs.drop l)) (.slice (if cap = l then q else q.map (·.add (l * k))) (n - l) (cap - l)) := by
  simp only [Rep] at h ⊢
  obtain ⟨a', cap', hv, hn, hc⟩ := h
  simp only [Value.slice.injEq] at hv
  obtain ⟨rfl, rfl, rfl⟩ := hv
  refine ⟨if cap = l then q else q.map (·.add (l * k)), cap - l, by rw [List.length_drop], by rw [List.length_drop]; omega, ?_⟩
  rcases hc with rfl | ⟨b, o, s, rfl, hs, he⟩
  · left; simp
  · by_cases hd : xs.drop l = []
    · exact .inl hd
    · right
      have hlt : l < xs.length := by
        rcases Nat.lt_or_ge l xs.length with h | h
        · exact h
        · exact absurd (List.drop_eq_nil_of_le h) hd
      have hsk : s = k := by
        cases xs with
        | nil => simp at hlt
        | cons x r =>
          rw [← hs x (by simp)]
          simpa [headSize, beq_dec] using hk
      subst hsk
      have hne : cap ≠ l := by omega
      refine ⟨b, o + l * s, s, ?_, fun x hx => hs x (List.mem_of_mem_drop hx), ?_⟩
      · simp only [hne, if_false, Option.map_some]
        congr 1
        unfold Addr.add; split <;> simp_all
      · rw [RepElems_iff _ _ _ (fun x hx => hs x (List.mem_of_mem_drop hx))]
        rw [RepElems_iff _ _ _ hs] at he
        have hsplit : flat xs = flat (xs.take l) ++ flat (xs.drop l) := by rw [← flat_append, List.take_append_drop]
        rw [hsplit, Row_append] at he
        have hlen : (flat (xs.take l)).length = l * s := by
          rw [flat_length (fun x hx => hs x (List.mem_of_mem_take hx))]; simp [Nat.min_eq_left (Nat.le_of_lt hlt)]
        intro j d hj
        obtain ⟨v, hv, hd'⟩ := he.2 j d hj
        refine ⟨v, ?_, hd'⟩
        rw [hlen] at hv
        show F.cell b (o + l * s + j) = some v
        rw [Nat.add_assoc]; exact hv

end
end Go.Abs
end

section
namespace Go.Abs

section
variable {G : Ctx} {Wr : Nat → Prop} {P : Program}
variable {g : Gh} {V : Vw} {st : St} {a : Act} {w : World} (hV : Shows V st) (h : Inv G Wr g st a.tmps w) (tie : Ties G P)

theorem headSize_take {k n : Nat} {xs : List DV} (h : headSize k xs = true) : headSize k (xs.take n) = true := by
  cases xs with
  | nil => simp [headSize]
  | cons x r => cases n <;> simp_all [headSize]

/-- A part of a list. -/
theorem Rep.part {F : Fz} {xs : List DV} {q : Option Addr} {n cap l hh k : Nat} (h : Rep F (.lst xs) (.slice q n cap)) (h1 : l ≤ hh) (h2 : hh ≤ xs.length) (hk : headSize k xs = true) :
    Rep F (.lst ((xs.take hh).drop l)) (.slice (if cap = l then q else q.map (·.add (l * k))) (hh - l) (cap - l)) :=
  (h.take h2).drop (by simp; omega) (headSize_take hk)

/-- A view's list, as it is seen. -/
theorem see_view {V : Vw} {st : St} (hV : Shows V st) {o : Org} {k : Nat} {ys xs : List DV} (hs : see V o k = some ys) (hat : (∃ e, st.all.at_ o = .own e xs) ∨ st.all.at_ o = .dv (.lst xs)) : ys = xs.take k := by
  unfold see at hs
  split at hs
  · rename_i e' zs hz
    have := hV.at_ (o := o) (by rw [hz]; simp)
    rw [hz] at this
    simp only [Option.some.injEq] at hs
    rcases hat with ⟨e2, hat⟩ | hat
    · rw [this] at hat; simp only [AV.own.injEq] at hat; rw [← hs, hat.2]
    · rw [this] at hat; cases hat
  · rename_i zs hz
    have := hV.at_ (o := o) (by rw [hz]; simp)
    rw [hz] at this
    simp only [Option.some.injEq] at hs
    rcases hat with ⟨e2, hat⟩ | hat
    · rw [this] at hat; cases hat
    · rw [this] at hat; simp only [AV.dv.injEq, DV.lst.injEq] at hat; rw [← hs, hat]
  · cases hs

theorem own_cap {g : Gh} {T lk w p e xs u} (hr : OwnRel G Wr g T lk w p e xs u) : ∃ q cap, u = .slice q xs.length cap ∧ xs.length ≤ cap := by
  rcases hr with ⟨rfl, rfl⟩ | ⟨b, cap, cur, ty, size, _, _, rfl, h4, _⟩
  · exact ⟨none, 0, rfl, Nat.le_refl _⟩
  · exact ⟨_, cap, rfl, h4⟩
theorem Rep.cap {F : Fz} {xs : List DV} {v : Value} (h : Rep F (.lst xs) v) : ∃ q cap, v = .slice q xs.length cap ∧ xs.length ≤ cap := by
  simp only [Rep] at h
  obtain ⟨a, cap, hv, hn, _⟩ := h
  exact ⟨a, cap, hv, hn⟩

include h in
/-- What a view's place holds. -/
theorem place_cap {o : Org} {xs : List DV} {q : Option Addr} {n cap : Nat} (hat : (∃ e, st.all.at_ o = .own e xs) ∨ st.all.at_ o = .dv (.lst xs)) (hp : pval g.θ a.tmps w o = some (.slice q n cap)) : xs.length ≤ cap ∧ n = xs.length := by
  rcases hat with ⟨e, hat⟩ | hat
  · obtain ⟨u, k1, k2⟩ := h.place o _ hat (by simp) rfl
    rw [hp] at k1
    simp only [Option.some.injEq] at k1; subst k1
    obtain ⟨q2, cap2, k3, k4⟩ := own_cap (by simpa only [PRel] using k2)
    simp only [Value.slice.injEq] at k3
    obtain ⟨_, rfl, rfl⟩ := k3
    exact ⟨k4, rfl⟩
  · obtain ⟨u, k1, k2⟩ := h.place o _ hat (by simp) rfl
    rw [hp] at k1
    simp only [Option.some.injEq] at k1; subst k1
    obtain ⟨q2, cap2, k3, k4⟩ := Rep.cap (by simpa only [PRel, VRel] using k2)
    simp only [Value.slice.injEq] at k3
    obtain ⟨_, rfl, rfl⟩ := k3
    exact ⟨k4, rfl⟩

include hV h tie in
theorem slice_simple {T : TypeId} {x : Operand} {lo hi : Option Operand} {out : Out} (hm : sliceOut G V T x lo hi = some out) {o : Oper} (ho : o.op = .slice T x lo hi none) : Simple G Wr g V st a w out ((execOp a.eval o).run P w) := by
  have hexec : execOp a.eval o = (do pure (.value (← Instr.sliceAt T (a.eval x) (lo.map a.eval) (hi.map a.eval) none)) : Sem Next) := by simp [execOp, ho]
  rw [hexec]
  unfold sliceOut at hm
  split at hm
  · rename_i hu
    split at hm
    · rename_i b hx
      have h1 := scalar_rep hV h hx
      simp only [Rep] at h1
      rw [h1]
      split at hm
      · rename_i hh l hhi hlo
        cases hb : Nat.ble l hh && Nat.ble hh b.data.toList.length with
        | false => rw [hb] at hm; cases hm
        | true =>
          simp only [hb, cond_true, Option.some.injEq] at hm; subst hm
          simp only [ble_dec, Bool.and_eq_true, decide_eq_true_eq, length_data] at hb
          rw [length_data] at hhi
          have hr := run_bounds (P := P) false (len := b.size) (cap := b.size) (optVal (optIdx_eval hV h hhi)) (optVal (optIdx_eval hV h hlo)) hb.1 hb.2 w
          refine Simple.dv (v := .string (b.extract l hh)) ?_ (by simp only [Rep, subB_eq])
          simp [Instr.sliceAt, underlying, tie.und T _ hu, Instr.slice, hr]
      · cases hm
    · cases hm
  · rename_i e hu
    split at hm
    · rename_i k xs hk hx
      have h1 := opnd_rel hV h hx (by simp) rfl
      simp only [VRel] at h1
      obtain ⟨q, cap, hq, hcap⟩ := h1.cap
      rw [hq] at h1 ⊢
      split at hm
      · rename_i hh l hhi hlo
        cases hb : Nat.ble l hh && Nat.ble hh xs.length && headSize k xs with
        | false => rw [hb] at hm; cases hm
        | true =>
          simp only [hb, cond_true, Option.some.injEq] at hm; subst hm
          simp only [ble_dec, Bool.and_eq_true, decide_eq_true_eq] at hb
          refine Simple.dv ?_ (h1.part hb.1.1 hb.1.2 hb.2)
          simp [run_slice tie hu hk (optVal (optIdx_eval hV h hhi)) (optVal (optIdx_eval hV h hlo)) hb.1.1 (Nat.le_trans hb.1.2 hcap) w]
      · cases hm
    · rename_i k e' hk hx
      have h1 := opnd_rel hV h hx (by simp) rfl
      simp only [VRel] at h1
      rw [h1]
      split at hm
      · rename_i hhi hlo
        simp only [Option.some.injEq] at hm; subst hm
        refine Simple.plain (v := .slice none 0 0) ?_ rfl (by simp only [VRel])
        simp [run_slice0 tie hu hk (optVal (optIdx_eval hV h hhi)) (optVal (optIdx_eval hV h hlo)) (Nat.le_refl 0) w]
      · cases hm
    · rename_i k p m hk hx
      obtain ⟨t, rfl, ht, h1, h2⟩ := opnd_view hV h hx rfl
      have h2' := h2
      simp only [ViewRel] at h2
      obtain ⟨xs, q, cap, hat, hpv, hev, hmle⟩ := h2
      have hcap := (place_cap h hat hpv).1
      split at hm
      · rename_i ys hs
        have hys := see_view hV hs hat
        have hylen : ys.length = m := by rw [hys]; simp; omega
        rw [hev]
        split at hm
        · rename_i hh hhi hlo
          cases hb : Nat.ble hh ys.length with
          | false => rw [hb] at hm; cases hm
          | true =>
            simp only [hb, cond_true, Option.some.injEq] at hm; subst hm
            simp only [ble_dec, decide_eq_true_eq] at hb
            rw [hylen] at hb hhi
            refine ⟨_, [], .slice q hh cap, rfl, by simp [run_slice0 tie hu hk (optVal (optIdx_eval hV h hhi)) (optVal (optIdx_eval hV h hlo)) (show hh ≤ cap by omega) w], by simp, fun g' st' hg h' hf hst => ?_⟩
            simp only [isView, if_true]
            simp only [List.foldl_nil] at hst
            subst hst
            simp only [ViewRel]
            exact ⟨xs, q, cap, hat, by rw [hg.θ]; exact hpv, rfl, by omega⟩
        · rename_i hh l _ hhi hlo
          cases hb : Nat.ble l hh && Nat.ble hh ys.length && headSize k ys with
          | false => rw [hb] at hm; cases hm
          | true =>
            simp only [hb, cond_true] at hm
            simp only [ble_dec, Bool.and_eq_true, decide_eq_true_eq] at hb
            split at hm
            · rename_i d f hd
              simp only [Option.some.injEq] at hm; subst hm
              have hhm : hh ≤ m := by omega
              rw [hylen] at hhi
              refine ⟨_, f, .slice (if cap = l then q else q.map (·.add (l * k))) (hh - l) (cap - l), rfl, by simp [run_slice tie hu hk (optVal (optIdx_eval hV h hhi)) (optVal (optIdx_eval hV h hlo)) hb.1.1 (show hh ≤ cap by omega) w], deepAt_unlocked hd, fun g' st' hg h' hf hst => ?_⟩
              simp only [isView, Bool.false_eq_true, if_false, VRel]
              have hdd : d = .lst ys := by
                unfold deepAt at hd
                split at hd
                · rename_i e' zs hz
                  have hz' := hV.at_ (o := p) (by rw [hz]; simp)
                  rw [hz] at hz'
                  cases hl : V.locked p <;> simp [ask, hl] at hd
                  rw [← hd.1, hys]
                  rcases hat with ⟨e2, hat⟩ | hat
                  · rw [hz'] at hat; simp only [AV.own.injEq] at hat; rw [hat.2]
                  · rw [hz'] at hat; cases hat
                · rename_i zs hz
                  have hz' := hV.at_ (o := p) (by rw [hz]; simp)
                  rw [hz] at hz'
                  simp only [Option.some.injEq, Prod.mk.injEq] at hd
                  rw [← hd.1, hys]
                  rcases hat with ⟨e2, hat⟩ | hat
                  · rw [hz'] at hat; cases hat
                  · rw [hz'] at hat; simp only [AV.dv.injEq, DV.lst.injEq] at hat; rw [hat]
                · cases hd
              have hrep := deepAt_rep hV h' hd hf (fun _ ho => ho) ht h1
              rw [hdd, hev] at hrep
              exact hrep.part hb.1.1 hb.1.2 hb.2
            · cases hm
        · cases hm
      · cases hm
    · rename_i k e' xs hk hx
      obtain ⟨t, rfl, ht, h1, h2⟩ := opnd_own hV h hx
      obtain ⟨q, cap, hq, hcap⟩ := own_cap h2
      rw [hq] at h1 ⊢
      split at hm
      · rename_i t' hh heq hhi hlo
        simp only [Operand.tmp.injEq] at heq; subst heq
        cases hb : Nat.ble hh xs.length with
        | false => rw [hb] at hm; cases hm
        | true =>
          simp only [hb, cond_true, Option.some.injEq] at hm; subst hm
          simp only [ble_dec, decide_eq_true_eq] at hb
          refine ⟨_, [], .slice q hh cap, rfl, by simp [run_slice0 tie hu hk (optVal (optIdx_eval hV h hhi)) (optVal (optIdx_eval hV h hlo)) (show hh ≤ cap by omega) w], by simp, fun g' st' hg h' hf hst => ?_⟩
          simp only [isView, if_true]
          simp only [List.foldl_nil] at hst
          subst hst
          simp only [ViewRel]
          exact ⟨xs, q, cap, .inl ⟨e', ht⟩, h1, rfl, hb⟩
      · rename_i t' hh l _ heq hhi hlo
        simp only [Operand.tmp.injEq] at heq; subst heq
        cases hb : Nat.ble l hh && Nat.ble hh xs.length && headSize k xs with
        | false => rw [hb] at hm; cases hm
        | true =>
          simp only [hb, cond_true, Option.some.injEq] at hm; subst hm
          simp only [ble_dec, Bool.and_eq_true, decide_eq_true_eq] at hb
          refine ⟨_, [.slot t], .slice (if cap = l then q else q.map (·.add (l * k))) (hh - l) (cap - l), rfl, by simp [run_slice tie hu hk (optVal (optIdx_eval hV h hhi)) (optVal (optIdx_eval hV h hlo)) hb.1.1 (show hh ≤ cap by omega) w], by simp [Vw.locked], fun g' st' hg h' hf hst => ?_⟩
          simp only [isView, Bool.false_eq_true, if_false, VRel]
          have hrep := own_rep h' hf (o := .slot t) (by simp) ht (v := .slice q xs.length cap) h1
          exact hrep.part hb.1.1 hb.1.2 hb.2
      · cases hm
    · cases hm
  · cases hm

end
end Go.Abs
end

section
namespace Go.Abs

section
variable {G : Ctx} {Wr : Nat → Prop} {P : Program}
variable {g : Gh} {V : Vw} {st : St} {a : Act} {w : World} (hV : Shows V st) (h : Inv G Wr g st a.tmps w) (tie : Ties G P)

theorem cells_rel {F : Fz} {θ T} {A : AV} {v : Value} (h : VRel F θ T A v) : VRelL F θ T A.cells v.cells.toList := by
  cases A with
  | agg cs =>
    simp only [VRel] at h
    obtain ⟨us, rfl, h⟩ := h
    simpa [AV.cells, Value.cells] using h
  | dv d =>
    cases d with
    | agg cs =>
      simp only [VRel, Rep] at h
      obtain ⟨us, rfl, h⟩ := h
      simp only [AV.cells, Value.cells]
      rw [VRelL_iff]
      rw [RepL_iff] at h
      refine ⟨by simpa using h.1, fun j A hA => ?_⟩
      rw [List.getElem?_map, Option.map_eq_some_iff] at hA
      obtain ⟨d, hd, rfl⟩ := hA
      obtain ⟨v, hv, hr⟩ := h.2 j d hd
      exact ⟨v, hv, by simpa only [VRel] using hr⟩
    | bool x => simp only [VRel, Rep] at h; subst h; simp [AV.cells, Value.cells, VRelL, VRel, Rep]
    | int k n => simp only [VRel, Rep] at h; subst h; simp [AV.cells, Value.cells, VRelL, VRel, Rep]
    | str s => simp only [VRel, Rep] at h; subst h; simp [AV.cells, Value.cells, VRelL, VRel, Rep]
    | nilp => simp only [VRel, Rep] at h; subst h; simp [AV.cells, Value.cells, VRelL, VRel, Rep]
    | nilm => simp only [VRel, Rep] at h; subst h; simp [AV.cells, Value.cells, VRelL, VRel, Rep]
    | nilf => simp only [VRel, Rep] at h; subst h; simp [AV.cells, Value.cells, VRelL, VRel, Rep]
    | nili => simp only [VRel, Rep] at h; subst h; simp [AV.cells, Value.cells, VRelL, VRel, Rep]
    | ptr cs o =>
      have h' := h
      simp only [VRel, Rep] at h; obtain ⟨b, o', rfl, _⟩ := h
      simp only [AV.cells, Value.cells, VRelL]; exact ⟨_, [], by simp, h', rfl⟩
    | lst xs =>
      have h' := h
      simp only [VRel, Rep] at h; obtain ⟨b, o', rfl, _⟩ := h
      simp only [AV.cells, Value.cells, VRelL]; exact ⟨_, [], by simp, h', rfl⟩
    | map kv =>
      have h' := h
      simp only [VRel, Rep] at h; obtain ⟨b, o', rfl, _⟩ := h
      simp only [AV.cells, Value.cells, VRelL]; exact ⟨_, [], by simp, h', rfl⟩
    | fn f cs =>
      have h' := h
      simp only [VRel, Rep] at h; obtain ⟨b, rfl, _⟩ := h
      simp only [AV.cells, Value.cells, VRelL]; exact ⟨_, [], by simp, h', rfl⟩
    | ifc t d =>
      have h' := h
      simp only [VRel, Rep] at h; obtain ⟨b, rfl, _⟩ := h
      simp only [AV.cells, Value.cells, VRelL]; exact ⟨_, [], by simp, h', rfl⟩
  | ptr id off =>
    have h' := h
    simp only [VRel] at h; obtain ⟨rfl, _⟩ := h
    simp only [AV.cells, Value.cells, VRelL]; exact ⟨_, [], by simp, h', rfl⟩
  | map id =>
    have h' := h
    simp only [VRel] at h; obtain ⟨rfl, _⟩ := h
    simp only [AV.cells, Value.cells, VRelL]; exact ⟨_, [], by simp, h', rfl⟩
  | nils e =>
    have h' := h
    simp only [VRel] at h; subst h
    simp only [AV.cells, Value.cells, VRelL]; exact ⟨_, [], by simp, h', rfl⟩
  | ifc t v =>
    have h' := h
    simp only [VRel] at h; obtain ⟨u, rfl, _⟩ := h
    simp only [AV.cells, Value.cells, VRelL]; exact ⟨_, [], by simp, h', rfl⟩
  | fn f cs =>
    have h' := h
    simp only [VRel] at h; obtain ⟨u, rfl, _⟩ := h
    simp only [AV.cells, Value.cells, VRelL]; exact ⟨_, [], by simp, h', rfl⟩
  | tup vs =>
    have h' := h
    simp only [VRel] at h; obtain ⟨u, rfl, _⟩ := h
    simp only [AV.cells, Value.cells, VRelL]; exact ⟨_, [], by simp, h', rfl⟩
  | undf =>
    have h' := h
    simp only [VRel] at h; subst h
    simp only [AV.cells, Value.cells, VRelL]; exact ⟨undef, [], rfl, h', rfl⟩
  | _ => simp [VRel] at h

include hV h in
/-- A part of an aggregate that is built. -/
theorem partOf_rel {x : Operand} {cs : List AV} {f F0 : List Org} (hx : partOf V x = some (cs, f)) {g' : Gh} {st' : St} (hg : GStep Wr g g') (h' : Inv G Wr g' st' a.tmps w) (hf : Done F0 st st') (hF : ∀ o ∈ f, o ∈ F0) :
    VRelL g'.F g'.θ st'.ent cs (a.eval x).cells.toList := by
  unfold partOf at hx
  split at hx
  · rename_i e xs hx'
    split at hx
    · rename_i d f' hd
      simp only [Option.some.injEq, Prod.mk.injEq] at hx
      obtain ⟨rfl, rfl⟩ := hx
      have hr := deep_rep hV h h' hg hd hf hF
      have hdl : d = .lst xs := by
        unfold deep at hd
        rw [hx'] at hd
        cases x <;> simp_all
      subst hdl
      obtain ⟨q, cap, hq⟩ := hr.lst_len
      rw [hq] at hr ⊢
      simp only [VRelL, Value.cells]
      exact ⟨_, [], rfl, by simpa only [VRel] using hr, rfl⟩
    · cases hx
  · rename_i o k hx'
    split at hx
    · rename_i d f' hd
      simp only [Option.some.injEq, Prod.mk.injEq] at hx
      obtain ⟨rfl, rfl⟩ := hx
      have hr := deep_rep hV h h' hg hd hf hF
      have hdl : ∃ xs, d = .lst xs := by
        unfold deep at hd
        rw [hx'] at hd
        simp only at hd
        unfold deepAt at hd
        split at hd
        · cases hl : V.locked o <;> simp [ask, hl] at hd
          exact ⟨_, hd.1.symm⟩
        · simp only [Option.some.injEq, Prod.mk.injEq] at hd; exact ⟨_, hd.1.symm⟩
        · cases hd
      obtain ⟨xs, rfl⟩ := hdl
      obtain ⟨q, cap, hq⟩ := hr.lst_len
      rw [hq] at hr ⊢
      simp only [VRelL, Value.cells]
      exact ⟨_, [], rfl, by simpa only [VRel] using hr, rfl⟩
    · cases hx
  · rename_i A hno hnv hx'
    cases hs : A.solid with
    | false => rw [hs] at hx; cases hx
    | true =>
      simp only [ask, hs, cond_true, Option.some.injEq, Prod.mk.injEq] at hx
      obtain ⟨rfl, rfl⟩ := hx
      have hv : isView A = false := by cases A <;> simp_all [isView, AV.solid]
      have h1 := opnd_rel hV h hx' (fun e xs he => hno e xs he) hv
      exact cells_rel (h1.frz hg hf.toFrz)
  · cases hx

end
end Go.Abs
end

section
namespace Go.Abs

section
variable {G : Ctx} {Wr : Nat → Prop} {P : Program}
variable {g : Gh} {V : Vw} {st : St} {a : Act} {w : World} (hV : Shows V st) (h : Inv G Wr g st a.tmps w) (tie : Ties G P)

theorem partOf_unlocked {x : Operand} {cs : List AV} {f : List Org} (hx : partOf V x = some (cs, f)) : ∀ o ∈ f, V.locked o = false := by
  unfold partOf at hx
  split at hx
  · split at hx
    · rename_i d f' hd
      simp only [Option.some.injEq, Prod.mk.injEq] at hx
      obtain ⟨_, rfl⟩ := hx
      exact deep_unlocked hd
    · cases hx
  · split at hx
    · rename_i d f' hd
      simp only [Option.some.injEq, Prod.mk.injEq] at hx
      obtain ⟨_, rfl⟩ := hx
      exact deep_unlocked hd
    · cases hx
  · rename_i A _ _ _
    cases hs : A.solid with
    | false => rw [hs] at hx; cases hx
    | true =>
      simp only [ask, hs, cond_true, Option.some.injEq, Prod.mk.injEq] at hx
      obtain ⟨_, rfl⟩ := hx; simp
  · cases hx

include hV h in
theorem minMax_run {mx : Bool} : ∀ (xs : List Operand) (k : IntKind) (n : Int) {d : DV}, minMax V mx k n xs = some d →
    ∃ v, ((xs.map a.eval).foldlM (if mx then Builtin.max2 else Builtin.min2) (.int k n) : Sem Value).run P w = .ok v w ∧ Rep g.F d v
  | [], k, n, d, hm => by
    simp only [minMax, Option.some.injEq] at hm; subst hm
    exact ⟨.int k n, by simp, by simp only [Rep]⟩
  | x :: r, k, n, d, hm => by
    simp only [minMax] at hm
    split at hm
    · rename_i k' m hx
      have h1 := opnd_rel hV h hx (by simp) rfl
      simp only [VRel, Rep] at h1
      obtain ⟨v, k1, k2⟩ := minMax_run r _ _ hm
      refine ⟨v, ?_, k2⟩
      simp only [List.map_cons, List.foldlM_cons, Sem.run_bind, h1]
      rw [← k1]
      cases mx with
      | true =>
        simp only [if_true, Builtin.max2, Sem.run_pure, Result.andThen_ok, cond_true, intLe_iff]
        congr 2
        by_cases hmn : m > n
        · have : ¬ m ≤ n := by omega
          simp [hmn, this]
        · have : m ≤ n := by omega
          simp [hmn, this]
      | false =>
        simp only [Bool.false_eq_true, if_false, Builtin.min2, Sem.run_pure, Result.andThen_ok, cond_false, intLe_iff]
        congr 2
        by_cases hmn : m < n
        · have : ¬ n ≤ m := by omega
          simp [hmn, this]
        · have : n ≤ m := by omega
          simp [hmn, this]
    · cases hm

end
end Go.Abs
end

section
namespace Go.Abs

section
variable {G : Ctx} {Wr : Nat → Prop} {P : Program}
variable {g : Gh} {V : Vw} {st : St} {a : Act} {w : World} (hV : Shows V st) (h : Inv G Wr g st a.tmps w) (tie : Ties G P)

include hV h in
theorem minMaxOut_simple {mx : Bool} {xs : List Operand} {out : Out} (hm : minMaxOut V mx xs = some out) {o : Oper} {c : Call} (ho : o.op = .call c) (hc : c.callee = .builtin (if mx then .max else .min)) (hxs : c.args.toList = xs) :
    Simple G Wr g V st a w out ((execOp a.eval o).run P w) := by
  unfold minMaxOut at hm
  split at hm
  · rename_i x r
    split at hm
    · rename_i k n hx
      split at hm
      · rename_i d hd
        simp only [Option.some.injEq] at hm; subst hm
        have h1 := opnd_rel hV h hx (by simp) rfl
        simp only [VRel, Rep] at h1
        obtain ⟨v, k1, k2⟩ := minMax_run hV h (P := P) r k n hd
        refine Simple.dv (v := v) ?_ k2
        have hargs : (c.args.map a.eval).toList = .int k n :: r.map a.eval := by simp [hxs, h1]
        cases mx with
        | true =>
          simp only [if_true] at hc k1
          simp only [execOp, ho, resolve, hc, Sem.run_bind, Sem.run_pure, Result.andThen_ok, invoke, builtin, Builtin.max_, hargs, k1]
        | false =>
          simp only [Bool.false_eq_true, if_false] at hc k1
          simp only [execOp, ho, resolve, hc, Sem.run_bind, Sem.run_pure, Result.andThen_ok, invoke, builtin, Builtin.min_, hargs, k1]
      · cases hm
    · cases hm
  · cases hm

end
end Go.Abs
end

section
namespace Go.Abs

section
variable {G : Ctx} {Wr : Nat → Prop} {P : Program}
variable {g : Gh} {V : Vw} {st : St} {a : Act} {w : World} (hV : Shows V st) (h : Inv G Wr g st a.tmps w) (tie : Ties G P)

theorem wholeOf_unlocked {x : Operand} {A : AV} {f : List Org} (hx : wholeOf V x = some (A, f)) : ∀ o ∈ f, V.locked o = false := by
  unfold wholeOf at hx
  split at hx
  · split at hx
    · rename_i d f' hd
      simp only [Option.some.injEq, Prod.mk.injEq] at hx
      obtain ⟨_, rfl⟩ := hx
      exact deep_unlocked hd
    · cases hx
  · split at hx
    · rename_i d f' hd
      simp only [Option.some.injEq, Prod.mk.injEq] at hx
      obtain ⟨_, rfl⟩ := hx
      exact deep_unlocked hd
    · cases hx
  · rename_i A _ _ _
    cases hs : A.solid with
    | false => rw [hs] at hx; cases hx
    | true =>
      simp only [ask, hs, cond_true, Option.some.injEq, Prod.mk.injEq] at hx
      obtain ⟨_, rfl⟩ := hx; simp
  · cases hx

include hV h in
theorem wholeOf_rel {x : Operand} {A : AV} {f F0 : List Org} (hx : wholeOf V x = some (A, f)) {g' : Gh} {st' : St} (hg : GStep Wr g g') (h' : Inv G Wr g' st' a.tmps w) (hf : Done F0 st st') (hF : ∀ o ∈ f, o ∈ F0) :
    VRel g'.F g'.θ st'.ent A (a.eval x) := by
  unfold wholeOf at hx
  split at hx
  · split at hx
    · rename_i d f' hd
      simp only [Option.some.injEq, Prod.mk.injEq] at hx
      obtain ⟨rfl, rfl⟩ := hx
      simpa only [VRel] using deep_rep hV h h' hg hd hf hF
    · cases hx
  · split at hx
    · rename_i d f' hd
      simp only [Option.some.injEq, Prod.mk.injEq] at hx
      obtain ⟨rfl, rfl⟩ := hx
      simpa only [VRel] using deep_rep hV h h' hg hd hf hF
    · cases hx
  · rename_i A hno hnv hx'
    cases hs : A.solid with
    | false => rw [hs] at hx; cases hx
    | true =>
      simp only [ask, hs, cond_true, Option.some.injEq, Prod.mk.injEq] at hx
      obtain ⟨rfl, rfl⟩ := hx
      have hv : isView A = false := by cases A <;> simp_all [isView, AV.solid]
      exact (opnd_rel hV h hx' (fun e xs he => hno e xs he) hv).frz hg hf.toFrz
  · cases hx

include hV h tie in
theorem makeIface_simple {T : TypeId} {x : Operand} {out : Out} (hm : makeIfaceOut G V T x = some out) {o : Oper} (ho : o.op = .makeInterface T x) : Simple G Wr g V st a w out ((execOp a.eval o).run P w) := by
  unfold makeIfaceOut at hm
  split at hm
  · cases hm
  · rename_i d A f hno hu hx
    simp only [Option.some.injEq] at hm; subst hm
    refine ⟨_, f, .iface T (a.eval x), rfl, ?_, wholeOf_unlocked hx, fun g' st' hg h' hf _ => ?_⟩
    · cases d <;> first
        | exact (hno _ rfl).elim
        | simp [execOp, ho, Instr.makeInterface, underlying, tie.und T _ hu]
    · rw [isView_tidy _ rfl]
      simp only [Bool.false_eq_true, if_false]
      apply tidy_rel
      simp only [VRel]
      exact ⟨_, rfl, wholeOf_rel hV h hx hg h' hf (fun _ ho => ho)⟩
  · cases hm

end
end Go.Abs
end

section
namespace Go.Abs

section
variable {G : Ctx} {Wr : Nat → Prop} {P : Program}
variable {g : Gh} {V : Vw} {st : St} {a : Act} {w : World} (hV : Shows V st) (h : Inv G Wr g st a.tmps w) (tie : Ties G P)

include hV h in
/-- What is handed on, where what is lent is frozen. -/
theorem arg_rel {x : Operand} {A : AV} {f F0 : List Org} (hx : arg V x = some (A, f)) {g' : Gh} {st' : St} (hg : GStep Wr g g') (h' : Inv G Wr g' st' a.tmps w) (hf : Done F0 st st') (hF : ∀ o ∈ f, o ∈ F0) :
    VRel g'.F g'.θ st'.ent A (a.eval x) := by
  unfold arg at hx
  split at hx
  · rename_i e xs hx'
    obtain ⟨t, rfl, ht, h1, _⟩ := opnd_own hV h hx'
    simp only [Option.some.injEq, Prod.mk.injEq] at hx
    obtain ⟨rfl, rfl⟩ := hx
    simp only [VRel]
    exact own_rep h' hf (o := .slot t) (hF _ (by simp)) ht h1
  · rename_i o k hx'
    obtain ⟨t, rfl, ht, h1, _⟩ := opnd_view hV h hx' rfl
    have ht' : st'.slot t = .vw o k := by rw [hf.toFrz.slot (by rw [ht]; simp)]; exact ht
    obtain ⟨v', k1, k2⟩ := h'.view t _ ht' rfl
    rw [h1] at k1
    simp only [Option.some.injEq] at k1
    rw [← k1] at k2
    split at hx
    · rename_i e ys ho
      have ho' := hV.at_ (o := o) (by rw [ho]; simp)
      rw [ho] at ho'
      simp only [Option.some.injEq, Prod.mk.injEq] at hx
      obtain ⟨rfl, rfl⟩ := hx
      simp only [VRel]
      exact (view_rep h' k2 (hf.all o (hF o (by simp)) e ys ho')).2
    · rename_i ys ho
      have ho' := hV.at_ (o := o) (by rw [ho]; simp)
      rw [ho] at ho'
      simp only [Option.some.injEq, Prod.mk.injEq] at hx
      obtain ⟨rfl, rfl⟩ := hx
      have : st'.all.at_ o = .dv (.lst ys) := by
        rcases hf.at_ o with h1 | ⟨e, xs, h1, _⟩
        · exact h1.trans ho'
        · rw [ho'] at h1; cases h1
      simp only [VRel]
      exact (view_rep h' k2 this).2
    · cases hx
  · rename_i e hx'
    simp only [Option.some.injEq, Prod.mk.injEq] at hx
    obtain ⟨rfl, rfl⟩ := hx
    have h1 := opnd_rel hV h hx' (by simp) rfl
    simp only [VRel] at h1
    rw [h1]
    simp only [VRel, Rep]
    exact ⟨none, 0, rfl, Nat.le_refl _, .inl trivial⟩
  · rename_i A hno hnv _ hx'
    cases hs : A.solid with
    | false => rw [hs] at hx; cases hx
    | true =>
      simp only [ask, hs, cond_true, Option.some.injEq, Prod.mk.injEq] at hx
      obtain ⟨rfl, rfl⟩ := hx
      have hv : isView A = false := by cases A <;> simp_all [isView, AV.solid]
      exact tidy_rel _ _ ((opnd_rel hV h hx' (fun e xs he => hno e xs he) hv).frz hg hf.toFrz)
  · cases hx

include hV h in
theorem argsOf_rel : ∀ {xs : List Operand} {As : List AV} {f F0 : List Org} (_ : argsOf V xs = some (As, f)) {g' : Gh} {st' : St} (_ : GStep Wr g g') (_ : Inv G Wr g' st' a.tmps w) (_ : Done F0 st st') (_ : ∀ o ∈ f, o ∈ F0),
    VRelL g'.F g'.θ st'.ent As (xs.map a.eval)
  | [], As, f, F0, hx, g', st', hg, h', hf, hF => by
    simp only [argsOf, Option.some.injEq, Prod.mk.injEq] at hx
    obtain ⟨rfl, rfl⟩ := hx
    simp [VRelL]
  | x :: r, As, f, F0, hx, g', st', hg, h', hf, hF => by
    simp only [argsOf] at hx
    split at hx
    · rename_i A f1 Bs f2 h1 h2
      simp only [Option.some.injEq, Prod.mk.injEq] at hx
      obtain ⟨rfl, rfl⟩ := hx
      simp only [List.map_cons, VRelL]
      exact ⟨_, _, rfl, arg_rel hV h h1 hg h' hf (fun o ho => hF o (List.mem_append.2 (.inl ho))), argsOf_rel h2 hg h' hf (fun o ho => hF o (List.mem_append.2 (.inr ho)))⟩
    · cases hx

end
end Go.Abs
end

section
namespace Go.Abs

section
variable {G : Ctx} {Wr : Nat → Prop} {P : Program}
variable {g : Gh} {V : Vw} {st : St} {a : Act} {w : World} (hV : Shows V st) (h : Inv G Wr g st a.tmps w) (tie : Ties G P)

theorem anyLocked_spec : ∀ {l : List Org}, anyLocked V l = false → ∀ o ∈ l, V.locked o = false
  | [], _ => by simp
  | o :: r, hl => by
    simp only [anyLocked, Bool.or_eq_false_iff] at hl
    intro o' ho'
    rcases List.mem_cons.1 ho' with rfl | ho'
    · exact hl.1
    · exact anyLocked_spec hl.2 o' ho'

include hV h in
theorem makeFunc_simple {f : FuncId} {first caps : Array Operand} {out : Out} (hm : makeFuncOut V f first.toList caps.toList = some out) {o : Oper} (ho : o.op = .makeFunc (.func f) first caps) : Simple G Wr g V st a w out ((execOp a.eval o).run P w) := by
  unfold makeFuncOut at hm
  split at hm
  · rename_i As lent hf0 hx
    cases hl : anyLocked V lent with
    | true => rw [hl] at hm; cases hm
    | false =>
      simp only [hl, cond_false, Option.some.injEq] at hm; subst hm
      have hfirst : first = #[] := by simpa using hf0
      refine ⟨_, lent, .func (.func f) #[] (caps.map a.eval), rfl, by simp [execOp, ho, Instr.makeFunc, hfirst], anyLocked_spec hl, fun g' st' hg h' hf _ => ?_⟩
      rw [isView_tidy _ rfl]
      simp only [Bool.false_eq_true, if_false]
      apply tidy_rel
      simp only [VRel]
      exact ⟨_, rfl, by simpa using argsOf_rel hV h hx hg h' hf (fun _ ho => ho)⟩
  · cases hm

end
end Go.Abs
end

section
namespace Go.Abs

section
variable {G : Ctx} {Wr : Nat → Prop} {P : Program}
variable {g : Gh} {V : Vw} {st : St} {a : Act} {w : World} (hV : Shows V st) (h : Inv G Wr g st a.tmps w) (tie : Ties G P)

/-- A key looked for: the interpreter's list and the map's entries. -/
theorem lookupKey_spec {α : Type} (key : ByteArray) : ∀ (kv : List (ByteArray × α)) (es : List MapEntry) (i : Nat), es.map (·.key) = kv.map (fun x => Value.string x.1) →
    match lookupKey key i kv with
    | none => Instr.findNow .string (.string key) es i = some none ∧ ∀ x ∈ kv, x.1 ≠ key
    | some (j, v) => ∃ m e, j = i + m ∧ es[m]? = some e ∧ kv[m]? = some (key, v) ∧ Instr.findNow .string (.string key) es i = some (some (j, e.val)) ∧ e.key = .string key
  | [], [], i, _ => by simp [lookupKey, Instr.findNow]
  | [], _ :: _, i, h => by simp at h
  | _ :: _, [], i, h => by simp at h
  | (k, v) :: r, e :: es, i, h => by
    simp only [List.map_cons, List.cons.injEq] at h
    have hs : Instr.sameNow .string (.string key) e.key = some (key == k) := by rw [h.1]; rfl
    simp only [lookupKey]
    cases hb : eqB k key with
    | true =>
      rw [eqB_iff] at hb
      subst hb
      have : (k == k) = true := (MapKept.bytes_beq k k).2 rfl
      exact ⟨0, e, rfl, rfl, rfl, by simp [Instr.findNow, hs, this], h.1⟩
    | false =>
      have hne : (key == k) = false := by
        cases hq : key == k with
        | false => rfl
        | true =>
          rw [(MapKept.bytes_beq key k).1 hq, eqB_iff.2 rfl] at hb; cases hb
      have hne' : k ≠ key := by rintro rfl; rw [eqB_iff.2 rfl] at hb; cases hb
      have := lookupKey_spec key r es (i + 1) h.2
      simp only [cond_false]
      split at this
      · refine ⟨by simp [Instr.findNow, hs, hne, this.1], ?_⟩
        intro x hx
        rcases List.mem_cons.1 hx with rfl | hx
        · exact hne'
        · exact this.2 x hx
      · rename_i j u h0
        obtain ⟨m, e', h1, h2, h3, h4, h5⟩ := this
        exact ⟨m + 1, e', by omega, by simpa using h2, by simpa using h3, by simp [Instr.findNow, hs, hne, h4], h5⟩

theorem RepKv_keys {F : Fz} : ∀ (kv : List (ByteArray × DV)) (es : List MapEntry), RepKv F kv es → es.map (·.key) = kv.map (fun x => Value.string x.1)
  | [], es, h => by simp only [RepKv] at h; subst h; rfl
  | (k, d) :: r, es, h => by
    simp only [RepKv] at h
    obtain ⟨e, l', rfl, hk, _, hr⟩ := h
    simp [hk, RepKv_keys r l' hr]
theorem RepKv_get {F : Fz} : ∀ (kv : List (ByteArray × DV)) (es : List MapEntry), RepKv F kv es → ∀ (m : Nat) (k : ByteArray) (d : DV) (e : MapEntry), kv[m]? = some (k, d) → es[m]? = some e → Rep F d e.val
  | [], es, h, m, k, d, e, hk, he => by simp at hk
  | (k', d') :: r, es, h, m, k, d, e, hk, he => by
    simp only [RepKv] at h
    obtain ⟨e', l', rfl, _, hd, hr⟩ := h
    cases m with
    | zero => simp at hk he; obtain ⟨rfl, rfl⟩ := hk; subst he; exact hd
    | succ m => exact RepKv_get r l' hr m k d e (by simpa using hk) (by simpa using he)

theorem Ties.mapElem {G : Ctx} {P : Program} (tie : Ties G P) {T e : TypeId} (hm : G.mapElem T = some e) : ∃ kt, P.underlying T = some (.map kt e) ∧ P.underlying kt = some .string := by
  unfold Ctx.mapElem at hm
  split at hm
  · rename_i kt e' hu
    split at hm
    · rename_i hk
      simp only [Option.some.injEq] at hm; subst hm
      exact ⟨kt, tie.und _ _ hu, tie.und _ _ hk⟩
    · cases hm
  · cases hm

theorem run_lookup {T kt e : TypeId} (hu : P.underlying T = some (.map kt e)) (hk : P.underlying kt = some .string) {x : Value} {es : Array MapEntry} (hx : (x = .map none ∧ es = #[]) ∨ ∃ r clock, x = .map (some r) ∧ w.heap[r]? = some (.map es clock))
    {key : ByteArray} (ok : Bool) {f : Option (Nat × Value)} (hf : Instr.findNow .string (.string key) es.toList 0 = some f) {v : Value} {b : Bool}
    (hv : (∃ j, f = some (j, v) ∧ b = true) ∨ (f = none ∧ (zeroValue e).run P w = .ok v w ∧ b = false)) :
    (Instr.lookup T x (.string key) ok).run P w = .ok (if ok then .tuple #[v, .bool b] else v) w := by
  have hc : ∀ e0, (Instr.checkKey e0 10000 kt (.string key)).run P w = .ok () w := fun e0 => MapKept.run_checkKey (d := .string) hk (by simp [MapKept.IsKey]) e0 9999
  rcases hx with ⟨rfl, rfl⟩ | ⟨r, clock, rfl, hr⟩
  · simp only [Instr.lookup, Sem.run_bind, run_underlying hu, Result.andThen_ok, Sem.run_pure, hc, MapKept.run_findKey hk hf]
    rcases hv with ⟨j, rfl, rfl⟩ | ⟨rfl, hz, rfl⟩
    · simp
    · simp [hz]
  · simp only [Instr.lookup, Sem.run_bind, run_underlying hu, Result.andThen_ok, MapKept.run_getObj_map hr, Sem.run_pure, hc, MapKept.run_findKey hk hf]
    rcases hv with ⟨j, rfl, rfl⟩ | ⟨rfl, hz, rfl⟩
    · simp
    · simp [hz]

theorem zeroDV_nils (tie : Ties G P) {T : TypeId} {xs : List DV} (hz : G.zeroDV T = some (.lst xs)) (w : World) : (zeroValue T).run P w = .ok (.slice none 0 0) w := by
  unfold Ctx.zeroDV at hz
  split at hz
  · rename_i cs n b hi
    split at hz
    · split at hz
      · cases hz
      · cases hz
    · cases hz
  · rename_i z n b hno hi
    obtain ⟨i, h1, h2, h3, h4⟩ := tie.inf _ _ _ _ hi
    split at hz
    · rename_i A hA
      have : z = .slice none 0 0 := by
        unfold ofVal at hA
        split at hA <;> simp at hA <;> subst hA <;> simp [AV.toDV] at hz <;> rfl
      subst this
      simp [zeroValue, typeInfo, h1, h2]
    · cases hz
  · cases hz

theorem wrap_rel {F : Fz} {θ T} {A : AV} {v : Value} (ok b : Bool) (h : VRel F θ T A v) : VRel F θ T (bif ok then .tup [A, .dv (.bool b)] else A) (if ok then .tuple #[v, .bool b] else v) := by
  cases ok with
  | true => exact tup_rel b h
  | false => exact h
theorem wrap_noview {A : AV} (ok b : Bool) (h : isView A = false) : isView (bif ok then .tup [A, .dv (.bool b)] else A) = false := by
  cases ok with
  | true => rfl
  | false => exact h

/-- What a key that is not there leads to. -/
def missAV (G : Ctx) (e : TypeId) (ok : Bool) (z : DV) : AV := match z with
  | .lst xs => bif ok then .dv (.lst xs) else .nils (G.elem0 e)
  | z => .dv z

include hV h tie in
theorem lookup_simple {keep : Bool} {T : TypeId} {x k : Operand} {ok : Bool} {out : Out} (hm : lookupOut G V keep T x k ok = some out) {o : Oper} (ho : o.op = .lookup T x k ok) : Simple G Wr g V st a w out ((execOp a.eval o).run P w) := by
  have hexec : execOp a.eval o = (do pure (.value (← Instr.lookup T (a.eval x) (a.eval k) ok)) : Sem Next) := by simp [execOp, ho]
  rw [hexec]
  unfold lookupOut at hm
  split at hm
  · rename_i e key hT hk
    obtain ⟨kt, hu, hkt⟩ := tie.mapElem hT
    have hkey := scalar_rep hV h hk
    simp only [Rep] at hkey
    rw [hkey]
    split at hm
    · rename_i z hz
      obtain ⟨zv, i, z1, z2, z3, z4⟩ := zeroDV_run tie hz w
      -- what is not there
      have hmiss : ∀ F θ (T' : Nat → Option Ent), VRel F θ T' (missAV G e ok z) zv ∧ isView (missAV G e ok z) = false := by
        intro F θ T'
        unfold missAV
        cases z with
        | lst xs =>
          have := zeroDV_nils tie hz w
          rw [z3] at this
          simp only [Result.ok.injEq, and_true] at this
          subst this
          cases ok with
          | true => exact ⟨by simpa only [VRel, cond_true] using z4 F, rfl⟩
          | false => exact ⟨by simp [VRel], rfl⟩
        | _ => exact ⟨by simpa only [VRel] using z4 F, rfl⟩
      have gomiss : ∀ (xv : Value) (es : Array MapEntry), ((xv = .map none ∧ es = #[]) ∨ ∃ r clock, xv = .map (some r) ∧ w.heap[r]? = some (.map es clock)) → Instr.findNow .string (.string key) es.toList 0 = some none →
          Simple G Wr g V st a w { v := bif ok then .tup [(missAV G e ok z), .dv (.bool false)] else (missAV G e ok z) } ((do pure (.value (← Instr.lookup T xv (.string key) ok)) : Sem Next).run P w) := by
        intro xv es hx hf
        have := run_lookup hu hkt hx ok hf (v := zv) (b := false) (.inr ⟨rfl, z3, rfl⟩)
        exact Simple.plain (v := if ok then .tuple #[zv, .bool false] else zv) (by simp [this]) (wrap_noview ok false (hmiss g.F g.θ st.ent).2) (wrap_rel ok false (hmiss g.F g.θ st.ent).1)
      dsimp only at hm
      split at hm
      · rename_i hx
        have hx' := opnd_rel hV h hx (by simp) rfl
        simp only [VRel, Rep] at hx'
        rw [hx']
        simp only [Option.some.injEq] at hm; subst hm
        have this := gomiss (.map none) #[] (.inl ⟨rfl, rfl⟩) rfl
        clear gomiss hmiss
        cases z <;> exact this
      · rename_i kv hx
        have hx' := opnd_rel hV h hx (by simp) rfl
        simp only [VRel, Rep] at hx'
        obtain ⟨r, es, hxe, hF, hkv⟩ := hx'
        obtain ⟨clock, hr⟩ := h.heap.ok.map r es hF
        rw [hxe]
        have hspec := lookupKey_spec key kv es.toList 0 (RepKv_keys kv es.toList hkv)
        split at hm
        · rename_i j d hl
          rw [hl] at hspec
          obtain ⟨m, e', h1, h2, h3, h4, _⟩ := hspec
          simp only [Option.some.injEq] at hm; subst hm
          have := run_lookup hu hkt (.inr ⟨r, clock, rfl, hr⟩) ok h4 (v := e'.val) (b := true) (.inl ⟨j, rfl, rfl⟩)
          exact Simple.plain (v := if ok then .tuple #[e'.val, .bool true] else e'.val) (by simp [this]) (wrap_noview ok true rfl) (wrap_rel ok true (by simpa only [VRel] using RepKv_get kv es.toList hkv m key d e' h3 h2))
        · rename_i hl
          rw [hl] at hspec
          simp only [Option.some.injEq] at hm; subst hm
          have this := gomiss _ es (.inr ⟨r, clock, rfl, hr⟩) hspec.1
          clear gomiss hmiss
          cases z <;> exact this
      · rename_i id hx
        have hx' := opnd_rel hV h hx (by simp) rfl
        simp only [VRel] at hx'
        rw [hx'.1]
        split at hm
        · rename_i kv he
          have he' := hV.get id _ he
          obtain ⟨es, clock, hr, hks⟩ := h.heap.map id kv he'
          have hspec := lookupKey_spec key kv es.toList 0 hks
          -- an entry that is there
          have hthere : ∀ (m : Nat) (A : AV) (e' : MapEntry), es.toList[m]? = some e' → kv[m]? = some (key, A) → A ≠ .junk → pval g.θ a.tmps w (.cell id m) = some e'.val ∧ st.all.at_ (.cell id m) = A ∧ PRel G Wr g st.ent st.lk w (.cell id m) A e'.val := by
            intro m A e' h2 h3 hj
            have hat : cellOf (st.ent id) m = A := by rw [he']; simp [cellOf, h3]
            obtain ⟨u, k1, k2⟩ := h.heap.cells id m A hat hj
            have : cellVal w (g.θ id) m = some e'.val := by simp [cellVal, hr]; exact ⟨e', by simpa using h2, rfl⟩
            rw [this] at k1
            simp only [Option.some.injEq] at k1
            subst k1
            exact ⟨this, hat, k2⟩
          split at hm
          · rename_i j e0 xs hl
            rw [hl] at hspec
            obtain ⟨m, e', h1, h2, h3, h4, _⟩ := hspec
            simp only [Nat.zero_add] at h1; subst h1
            cases ok with
            | true => simp at hm
            | false =>
              simp only [cond_false] at hm
              obtain ⟨k1, k2, _⟩ := hthere j _ e' h2 h3 (by simp)
              have := run_lookup hu hkt (.inr ⟨_, clock, rfl, hr⟩) false h4 (v := e'.val) (b := true) (.inl ⟨j, rfl, rfl⟩)
              exact peek_simple (o := .cell id j) (v := e'.val) (by simp [this]) k2 k1 hm
          · rename_i j d hl
            rw [hl] at hspec
            obtain ⟨m, e', h1, h2, h3, h4, _⟩ := hspec
            simp only [Nat.zero_add] at h1; subst h1
            obtain ⟨k1, k2, k3⟩ := hthere j _ e' h2 h3 (by simp)
            simp only [Option.some.injEq] at hm; subst hm
            have := run_lookup hu hkt (.inr ⟨_, clock, rfl, hr⟩) ok h4 (v := e'.val) (b := true) (.inl ⟨j, rfl, rfl⟩)
            exact Simple.plain (v := if ok then .tuple #[e'.val, .bool true] else e'.val) (by simp [this]) (wrap_noview ok true rfl) (wrap_rel ok true k3)
          · rename_i j e0 hl
            rw [hl] at hspec
            obtain ⟨m, e', h1, h2, h3, h4, _⟩ := hspec
            simp only [Nat.zero_add] at h1; subst h1
            cases ok with
            | true => simp at hm
            | false =>
              simp only [cond_false, Option.some.injEq] at hm; subst hm
              obtain ⟨k1, k2, k3⟩ := hthere j _ e' h2 h3 (by simp)
              have := run_lookup hu hkt (.inr ⟨_, clock, rfl, hr⟩) false h4 (v := e'.val) (b := true) (.inl ⟨j, rfl, rfl⟩)
              exact Simple.plain (v := e'.val) (by simp [this]) rfl k3
          · cases hm
          · rename_i hl
            rw [hl] at hspec
            simp only [Option.some.injEq] at hm; subst hm
            have this := gomiss _ es (.inr ⟨_, clock, rfl, hr⟩) hspec.1
            clear gomiss hmiss
            cases z <;> exact this
        · cases hm
      · cases hm
    · cases hm
  · cases hm

end
end Go.Abs
end

section
namespace Go.Abs

section
variable {G : Ctx} {Wr : Nat → Prop} {P : Program}
variable {g : Gh} {V : Vw} {st : St} {a : Act} {w : World} (hV : Shows V st) (h : Inv G Wr g st a.tmps w) (tie : Ties G P)

/-- Values that are put into a row one behind the other. -/
theorem foldl_set : ∀ (vs : List Value) (cells : Array Value) (off k : Nat), off + k + vs.length ≤ cells.size →
    ((vs.zipIdx k).foldl (fun cs (x : Value × Nat) => cs.setIfInBounds (off + x.2) x.1) cells).toList = cells.toList.take (off + k) ++ vs ++ cells.toList.drop (off + k + vs.length)
  | [], cells, off, k, _ => by simp
  | c :: vs, cells, off, k, hl => by
    simp only [List.length_cons] at hl
    simp only [List.zipIdx_cons, List.foldl_cons]
    rw [foldl_set vs (cells.setIfInBounds (off + k) c) off (k + 1) (by simp; omega)]
    apply List.ext_getElem?
    intro j
    simp only [Array.toList_setIfInBounds, List.length_cons]
    have hsz : cells.toList.length = cells.size := by simp
    simp only [List.append_assoc, List.getElem?_append, List.length_take, List.length_set, hsz]
    have e1 : min (off + (k + 1)) cells.size = off + k + 1 := by omega
    have e2 : min (off + k) cells.size = off + k := by omega
    rw [e1, e2]
    by_cases h1 : j < off + k
    · have : j < off + k + 1 := by omega
      simp only [this, h1, if_true]
      rw [List.getElem?_take, List.getElem?_take, if_pos (by omega), if_pos h1, List.getElem?_set_ne (by omega)]
    · by_cases h2 : j = off + k
      · subst h2
        have : off + k < off + k + 1 := by omega
        simp only [this, if_true, h1, if_false, Nat.sub_self]
        rw [List.getElem?_take, if_pos (by omega), List.getElem?_set_self (by simp; omega)]
        simp
      · have h3 : ¬ j < off + k + 1 := by omega
        simp only [h1, h3, if_false]
        have e3 : j - (off + k) = (j - (off + k + 1)) + 1 := by omega
        rw [e3]
        simp only [List.length_cons, List.getElem?_cons_succ]
        by_cases h4 : j - (off + k + 1) < vs.length
        · have h5 : j - (off + k + 1) + 1 < vs.length + 1 := by omega
          simp [h4]
        · have h5 : ¬ j - (off + k + 1) + 1 < vs.length + 1 := by omega
          simp only [h4, h5, if_false]
          rw [List.getElem?_drop, List.getElem?_drop, List.getElem?_set_ne (by omega)]
          congr 1; omega

/-- Parts' cells in memory. -/
def PartsRel (F : Fz) (θ : Nat → Nat) (T : Nat → Option Ent) : List (Nat × List AV) → List (Nat × Value) → Prop
  | [], l => l = []
  | (i, as) :: r, l => ∃ v l', l = (i, v) :: l' ∧ VRelL F θ T as v.cells.toList ∧ PartsRel F θ T r l'

theorem VRelL.length {F : Fz} {θ T} {cs : List AV} {us : List Value} (h : VRelL F θ T cs us) : us.length = cs.length := ((VRelL_iff cs us).1 h).1

theorem VRelL.splice {F : Fz} {θ T} {cs vs : List AV} {us ws : List Value} (h : VRelL F θ T cs us) (k : VRelL F θ T vs ws) (off n : Nat) :
    VRelL F θ T (cs.take off ++ vs ++ cs.drop n) (us.take off ++ ws ++ us.drop n) := by
  rw [VRelL_iff] at h k ⊢
  obtain ⟨h1, h2⟩ := h
  obtain ⟨k1, k2⟩ := k
  refine ⟨by simp [h1, k1], fun j A hA => ?_⟩
  simp only [List.append_assoc, List.getElem?_append, List.length_take, h1, k1] at hA ⊢
  split at hA
  · rename_i hj
    rw [if_pos hj]
    have hjo : j < off := by omega
    rw [List.getElem?_take, if_pos hjo] at hA ⊢
    exact h2 j A hA
  · rename_i hj
    rw [if_neg hj]
    split at hA
    · rename_i hj2
      rw [if_pos hj2]
      exact k2 _ A hA
    · rename_i hj2
      rw [if_neg hj2]
      rw [List.getElem?_drop] at hA ⊢
      exact h2 _ A hA

theorem fill_rel {F : Fz} {θ T} {place : Nat → Option (Nat × Nat)} {pl : List (Nat × Nat)} (hp : ∀ (i : Nat) x, pl[i]? = some x → place i = some x) : ∀ (parts : List (Nat × List AV)) (vals : List (Nat × Value)) (cells : List AV) (us : Array Value) (cs : List AV),
    fillA pl cells parts = some cs → VRelL F θ T cells us.toList → PartsRel F θ T parts vals → ∃ us', Instr.fill place us vals = some us' ∧ VRelL F θ T cs us'.toList
  | [], vals, cells, us, cs, hf, hr, hv => by
    simp only [PartsRel] at hv; subst hv
    simp only [fillA, Option.some.injEq] at hf; subst hf
    exact ⟨us, rfl, hr⟩
  | (i, as) :: r, vals, cells, us, cs, hf, hr, hv => by
    simp only [PartsRel] at hv
    obtain ⟨v, l', rfl, hva, hv⟩ := hv
    simp only [fillA] at hf
    split at hf
    · rename_i off size hpi
      cases hc : Nat.beq as.length size && Nat.ble (off + size) cells.length with
      | false => rw [hc] at hf; cases hf
      | true =>
        rw [hc] at hf
        simp only [Bool.and_eq_true, beq_dec, ble_dec, decide_eq_true_eq] at hc
        simp only [cond_true] at hf
        have hl1 := hr.length
        have hl2 := hva.length
        simp only [Array.length_toList] at hl1 hl2
        have hfold := foldl_set v.cells.toList us off 0 (by simp only [Array.length_toList]; omega)
        have hrel : VRelL F θ T (cells.take off ++ as ++ cells.drop (off + size)) ((v.cells.zipIdx.foldl (fun cs (x : Value × Nat) => cs.setIfInBounds (off + x.2) x.1) us)).toList := by
          have : (v.cells.zipIdx.foldl (fun cs (x : Value × Nat) => cs.setIfInBounds (off + x.2) x.1) us) = ((v.cells.toList.zipIdx 0).foldl (fun cs (x : Value × Nat) => cs.setIfInBounds (off + x.2) x.1) us) := by
            rw [← Array.foldl_toList, Array.toList_zipIdx]
          rw [this, hfold]
          have e : off + 0 + v.cells.toList.length = off + size := by simp only [Array.length_toList]; omega
          rw [e, Nat.add_zero]
          exact hr.splice hva off (off + size)
        obtain ⟨us', h1, h2⟩ := fill_rel hp r l' _ _ cs hf hrel hv
        refine ⟨us', ?_, h2⟩
        simp only [Instr.fill, hp i _ hpi]
        rw [if_neg]
        · exact h1
        · simp only [ne_eq, Bool.or_eq_true, decide_eq_true_eq, not_or, Decidable.not_not, Nat.not_lt]
          omega
    · cases hf

theorem typeds_rel {F : Fz} {θ T} : ∀ {cs : List AV} {us : List Value} (l : List TypeId), VRelL F θ T cs us → VRelL F θ T (typeds cs l) us
  | [], us, l, h => by cases l <;> exact h
  | c :: cs, us, [], h => h
  | c :: cs, us, e :: l, h => by
    simp only [VRelL, typeds] at h ⊢
    obtain ⟨v, l', rfl, hd, hr⟩ := h
    exact ⟨v, l', rfl, hd.typed e, typeds_rel l hr⟩

/-- A type's zero value, cell by cell. -/
theorem zero_run (tie : Ties G P) {T : TypeId} {cs : List AV} (hz : G.zero T = some cs) : ∃ v i, P.info? T = some i ∧ i.zero = some v ∧ i.size = cs.length ∧ ∀ F θ (T : Nat → Option Ent), VRelL F θ T cs v.cells.toList := by
  unfold Ctx.zero at hz
  split at hz
  · rename_i z n b hi
    obtain ⟨i, h1, h2, h3, h4⟩ := tie.inf _ _ _ _ hi
    split at hz
    · rename_i l hl
      cases hn : Nat.beq l.length n with
      | false => rw [hn] at hz; cases hz
      | true =>
        rw [hn] at hz
        simp only [cond_true, Option.some.injEq] at hz; subst hz
        refine ⟨z, i, h1, h2, ?_, fun F θ T => typeds_rel _ (ofCells_rel F θ T hl)⟩
        rw [h3]
        have e1 := (typeds_rel (G.leafs 10 T) (ofCells_rel ⟨fun _ _ => none, fun _ => none⟩ id (fun _ => none) hl)).length
        have e2 := (ofCells_rel ⟨fun _ _ => none, fun _ => none⟩ id (fun _ => none) hl).length
        rw [beq_dec] at hn
        have : l.length = n := by simpa using hn
        omega
    · cases hz
  · cases hz

theorem places_mapM (tie : Ties G P) : ∀ (fs : List Field) (l : List (Nat × Nat)), places G.size fs = some l → fs.mapM (fun f => (P.info? f.type).map fun i => (f.offset, i.size)) = some l
  | [], l, h => by simp only [places, Option.some.injEq] at h; subst h; simp
  | f :: fs, l, h => by
    simp only [places] at h
    split at h
    · rename_i n l' h1 h2
      simp only [Option.some.injEq] at h; subst h
      obtain ⟨i, k1, k2⟩ := tie.size h1
      simp [List.mapM_cons, k1, k2, places_mapM tie fs l' h2]
    · cases h

theorem rowPlaces_get (k : Nat) : ∀ (n off i : Nat) (x : Nat × Nat), (rowPlaces k n off)[i]? = some x → x = (off + i * k, k)
  | 0, off, i, x, h => by simp [rowPlaces] at h
  | n + 1, off, i, x, h => by
    cases i with
    | zero => simp [rowPlaces] at h; rw [← h]; simp
    | succ i =>
      have := rowPlaces_get k n (off + k) i x (by simpa [rowPlaces] using h)
      rw [this, Nat.succ_mul]; congr 1; omega

include hV h in
theorem partsOf_rel : ∀ {ps : List (Nat × Operand)} {vs : List (Nat × List AV)} {f F0 : List Org} (_ : partsOf V ps = some (vs, f)) {g' : Gh} {st' : St} (_ : GStep Wr g g') (_ : Inv G Wr g' st' a.tmps w) (_ : Done F0 st st') (_ : ∀ o ∈ f, o ∈ F0),
    PartsRel g'.F g'.θ st'.ent vs (ps.map fun x => (x.1, a.eval x.2))
  | [], vs, f, F0, hx, g', st', hg, h', hf, hF => by
    simp only [partsOf, Option.some.injEq, Prod.mk.injEq] at hx
    obtain ⟨rfl, rfl⟩ := hx
    simp [PartsRel]
  | (i, x) :: r, vs, f, F0, hx, g', st', hg, h', hf, hF => by
    simp only [partsOf] at hx
    split at hx
    · rename_i v fa vr fb h1 h2
      simp only [Option.some.injEq, Prod.mk.injEq] at hx
      obtain ⟨rfl, rfl⟩ := hx
      simp only [PartsRel, List.map_cons]
      exact ⟨_, _, rfl, partOf_rel hV h h1 hg h' hf (fun o ho => hF o (by simp [ho])), partsOf_rel h2 hg h' hf (fun o ho => hF o (by simp [ho]))⟩
    · cases hx

theorem partsOf_unlocked : ∀ {ps : List (Nat × Operand)} {vs : List (Nat × List AV)} {f : List Org} (_ : partsOf V ps = some (vs, f)), ∀ o ∈ f, V.locked o = false
  | [], vs, f, hx => by
    simp only [partsOf, Option.some.injEq, Prod.mk.injEq] at hx
    obtain ⟨rfl, rfl⟩ := hx
    simp
  | (i, x) :: r, vs, f, hx => by
    simp only [partsOf] at hx
    split at hx
    · rename_i v fa vr fb h1 h2
      simp only [Option.some.injEq, Prod.mk.injEq] at hx
      obtain ⟨rfl, rfl⟩ := hx
      intro o ho
      rcases List.mem_append.1 ho with ho | ho
      · exact partOf_unlocked h1 o ho
      · exact partsOf_unlocked h2 o ho
    · cases hx

include hV h tie in
theorem build_simple {T : TypeId} {ps : Array (Nat × Operand)} {out : Out} (hm : buildOut G V T ps.toList = some out) {o : Oper} (ho : o.op = .build T ps) : Simple G Wr g V st a w out ((execOp a.eval o).run P w) := by
  have hexec : execOp a.eval o = (do pure (.value (← Instr.build T (ps.map fun x => (x.1, a.eval x.2)))) : Sem Next) := by simp [execOp, ho]
  rw [hexec]
  unfold buildOut at hm
  dsimp only at hm
  split at hm
  · rename_i z vs f pl hz hps hpl
    split at hm
    · rename_i cs hfill
      simp only [Option.some.injEq] at hm; subst hm
      obtain ⟨zv, i, z1, z2, z3, z4⟩ := zero_run tie hz
      have hunl := partsOf_unlocked hps
      have hbuilt : ∀ (F : Fz) θ (T' : Nat → Option Ent) (vals : List (Nat × Value)), PartsRel F θ T' vs vals → ∃ us, P.built T vals = some us ∧ VRelL F θ T' cs us.toList := by
        intro F θ T' vals hvals
        split at hpl
        · rename_i fields hu
          have hmap := places_mapM tie _ _ hpl
          obtain ⟨us, k1, k2⟩ := fill_rel (place := fun x => pl.toArray[x]?) (fun i x hx => by simpa using hx) vs vals z zv.cells cs hfill (z4 F θ T') hvals
          exact ⟨us, by simp only [Program.built, z1, tie.und T _ hu, z2, hmap, k1], k2⟩
        · rename_i n e hu
          split at hpl
          · rename_i k hk
            simp only [Option.some.injEq] at hpl; subst hpl
            obtain ⟨ie, s1, s2⟩ := tie.size hk
            obtain ⟨us, k1, k2⟩ := fill_rel (place := fun i => some (i * k, k)) (fun i x hx => by rw [rowPlaces_get k n 0 i x hx]; simp) vs vals z zv.cells cs hfill (z4 F θ T') hvals
            exact ⟨us, by simp only [Program.built, z1, tie.und T _ hu, z2, s1, s2, k1], k2⟩
          · cases hpl
        · cases hpl
      obtain ⟨g1, h1, h2, h3, h4⟩ := h.freezeAll f (fun p hp => by rw [hV.locked]; exact hunl p hp)
      obtain ⟨us, hb, _⟩ := hbuilt _ _ _ _ (partsOf_rel hV h hps h1 h3 h4 (fun _ ho => ho))
      have hrun := run_build (P := P) w T (ps.map fun x => (x.1, a.eval x.2)) us (by simpa using hb)
      refine ⟨_, f, .agg us, rfl, by simp [hrun], hunl, fun g' st' hg h' hd _ => ?_⟩
      rw [isView_tidy _ rfl]
      simp only [Bool.false_eq_true, if_false]
      apply tidy_rel
      simp only [VRel]
      obtain ⟨us', hb', hr'⟩ := hbuilt _ _ _ _ (partsOf_rel hV h hps hg h' hd (fun _ ho => ho))
      rw [hb] at hb'
      simp only [Option.some.injEq] at hb'; subst hb'
      exact ⟨us, rfl, hr'⟩
    · cases hm
  · cases hm

end
end Go.Abs
end

section
namespace Go.Abs

section
variable {G : Ctx} {Wr : Nat → Prop} {P : Program}

/-! ## More memory -/

theorem heap_lt {w : World} {b : Nat} {o : Obj} (h : w.heap[b]? = some o) : b < w.heap.size := (Array.getElem?_eq_some_iff.1 h).1

theorem Base.block {g : Gh} {T : Nat → Option Ent} {lk : List Nat} {w : World} (h : Base Wr g T lk w) {i : Nat} (hi : T i ≠ none) : g.θ i < w.heap.size := by
  cases he : T i with
  | none => exact absurd he hi
  | some e =>
    cases e with
    | box cs => obtain ⟨cur, ty, h1, _⟩ := h.box i cs he; exact heap_lt h1
    | map kv => obtain ⟨es, clock, h1, _⟩ := h.map i kv he; exact heap_lt h1

theorem ent_of_at {st : St} {id c : Nat} (h : st.all.at_ (.cell id c) ≠ .junk) : st.ent id ≠ none := by
  rw [at_cell] at h
  intro he
  rw [he] at h
  exact h rfl

theorem shown_junk {A : AV} (h : A.shown = true) : A ≠ .junk := by rintro rfl; cases h

/-- A larger memory; places, boxes stay. -/
theorem Inv.ext {g g' : Gh} {st : St} {tmps : Array Value} {w w' : World} (h : Inv G Wr g st tmps w) (hF : g'.F = g.F) (hθ : ∀ i, st.ent i ≠ none → g'.θ i = g.θ i)
    (how : ∀ b p, g.ow b = some p → b < w.heap.size → g'.ow b = some p) (hh : ∀ b, b < w.heap.size → w'.heap[b]? = w.heap[b]?) (hs : w.heap.size ≤ w'.heap.size) : Inv G Wr g' st tmps w' := by
  have hb := h.heap.toBase
  have hpv : ∀ o, st.all.at_ o ≠ .junk → pval g'.θ tmps w' o = pval g.θ tmps w o := by
    intro o ho
    cases o with
    | slot n => rfl
    | cell id c =>
      have he := ent_of_at ho
      simp only [pval, cellVal, hθ id he, hh _ (hb.block he)]
  refine Inv.intro ?_ ?_ h.heap.noview ?_
  · refine { ok := ?_, box := ?_, map := ?_, inj := ?_, free := ?_, wr := ?_, big := ?_ }
    · rw [hF]
      refine ⟨fun b i v hv => ?_, fun b es hv => ?_⟩
      · have h1 := hb.ok.cell b i v hv
        exact (World.cell?_of_block (a := ⟨b, i, none⟩) (hh b (World.block_lt_of_cell? w ⟨b, i, none⟩ h1))).trans h1
      · obtain ⟨clock, h1⟩ := hb.ok.map b es hv
        exact ⟨clock, (hh b (heap_lt h1)).trans h1⟩
    · intro id cs he
      have hne : st.ent id ≠ none := by rw [he]; simp
      obtain ⟨cur, ty, h1, h2⟩ := hb.box id cs he
      exact ⟨cur, ty, by rw [hθ id hne, hh _ (hb.block hne)]; exact h1, h2⟩
    · intro id kv he
      have hne : st.ent id ≠ none := by rw [he]; simp
      obtain ⟨es, clock, h1, h2⟩ := hb.map id kv he
      exact ⟨es, clock, by rw [hθ id hne, hh _ (hb.block hne)]; exact h1, h2⟩
    · intro i j hi hj hij
      rw [hθ i hi, hθ j hj] at hij
      exact hb.inj i j hi hj hij
    · intro i hi
      rw [hθ i hi, hF]
      exact hb.free i hi
    · intro i hi hl
      rw [hθ i hi]
      exact hb.wr i hi hl
    · intro b hbs
      exact hb.big b (Nat.le_trans hs hbs)
  · intro o A hA hj hv
    obtain ⟨u, h1, h2⟩ := h.place o A hA hj hv
    refine ⟨u, by rw [hpv o (by rw [hA]; exact hj)]; exact h1, ?_⟩
    refine PRel.mono h2 (by rw [hF]; exact .refl _) ⟨fun i hi => ⟨hi, hθ i ?_⟩, fun i hi => ⟨hi, hθ i ?_⟩⟩ ?_
    · intro he; rw [he] at hi; cases hi
    · intro he; rw [he] at hi; cases hi
    · intro e xs _ b h3 h4 h5 h6
      exact ⟨hh b h6, how b _ h3 h6, by rw [hF]; exact h4, fun id hid => by rw [hθ id hid]; exact h5 id hid⟩
  · intro n A hA hv
    obtain ⟨v, h1, h2⟩ := h.view n A hA hv
    exact ⟨v, h1, viewRel_of h2 fun o ho => ⟨fun ys hy => hy, hpv o (shown_junk (viewRel_shown h2 ho))⟩⟩

theorem ent_put1 (st : St) (i j : Nat) (e : Ent) : St.ent { st with tb := put1 i e st.tb } j = if i = j then some e else st.ent j := by
  simp only [St.ent, find_put1]
theorem at_put1 (st : St) (i : Nat) (e : Ent) (o : Org) (hi : st.ent i = none) (ho : st.all.at_ o ≠ .junk) : (St.all { st with tb := put1 i e st.tb }).at_ o = st.all.at_ o := by
  cases o with
  | slot n => rfl
  | cell id c =>
    have := ent_of_at ho
    rw [at_cell, at_cell, ent_put1]
    rw [if_neg]
    rintro rfl
    exact this hi

theorem kept_put1 (θ : Nat → Nat) (st : St) (i : Nat) (e : Ent) (hi : st.ent i = none) : Kept θ st.ent θ (St.ent { st with tb := put1 i e st.tb }) := by
  constructor <;> intro j hj <;> rw [ent_put1] <;> rw [if_neg] <;> first
    | exact ⟨hj, rfl⟩
    | (rintro rfl; rw [hi] at hj; cases hj)

/-- One more box. -/
theorem Inv.addEnt {g : Gh} {st : St} {tmps : Array Value} {w : World} (h : Inv G Wr g st tmps w) {i : Nat} {e : Ent} (hi : st.ent i = none)
    (hbox : ∀ cs, e = .box cs → ∃ cur ty, w.heap[g.θ i]? = some (.cells cur ty (0, 0)) ∧ cur.size = cs.length)
    (hmap : ∀ kv, e = .map kv → ∃ es clock, w.heap[g.θ i]? = some (.map es clock) ∧ es.toList.map (·.key) = kv.map (fun x => Value.string x.1))
    (hinj : ∀ j, st.ent j ≠ none → g.θ j ≠ g.θ i) (hfree : g.F.free (g.θ i)) (hwr : Wr (g.θ i)) (how : g.ow (g.θ i) = none)
    (hcells : ∀ c A, cellOf (some e) c = A → A ≠ .junk → ∃ u, cellVal w (g.θ i) c = some u ∧ PRel G Wr g st.ent st.lk w (.cell i c) A u) :
    Inv G Wr g { st with tb := put1 i e st.tb } tmps w := by
  have hb := h.heap.toBase
  have hk := kept_put1 g.θ st i e hi
  have hpr : ∀ p A u, PRel G Wr g st.ent st.lk w p A u → PRel G Wr g (St.ent { st with tb := put1 i e st.tb }) st.lk w p A u := by
    intro p A u hp
    refine PRel.mono hp (.refl _) hk ?_
    intro e' xs _ b h3 h4 h5 h6
    refine ⟨rfl, h3, h4, fun id hid => ?_⟩
    rw [ent_put1] at hid
    by_cases hii : i = id
    · subst hii
      intro hb'
      rw [hb', h3] at how; cases how
    · rw [if_neg hii] at hid; exact h5 id hid
  refine Inv.intro ?_ ?_ ?_ ?_
  · refine { ok := hb.ok, box := ?_, map := ?_, inj := ?_, free := ?_, wr := ?_, big := hb.big }
    · intro id cs he
      rw [ent_put1] at he
      split at he
      · rename_i hii; subst hii
        simp only [Option.some.injEq] at he
        exact hbox cs he
      · exact hb.box id cs he
    · intro id kv he
      rw [ent_put1] at he
      split at he
      · rename_i hii; subst hii
        simp only [Option.some.injEq] at he
        exact hmap kv he
      · exact hb.map id kv he
    · intro j k hj hk' hjk
      rw [ent_put1] at hj hk'
      by_cases h1 : i = j
      · by_cases h2 : i = k
        · exact h1.symm.trans h2
        · rw [if_neg h2] at hk'
          subst h1
          exact absurd hjk.symm (hinj k hk')
      · rw [if_neg h1] at hj
        by_cases h2 : i = k
        · subst h2; exact absurd hjk (hinj j hj)
        · rw [if_neg h2] at hk'
          exact hb.inj j k hj hk' hjk
    · intro j hj
      rw [ent_put1] at hj
      by_cases h1 : i = j
      · subst h1; exact hfree
      · rw [if_neg h1] at hj; exact hb.free j hj
    · intro j hj hl
      rw [ent_put1] at hj
      by_cases h1 : i = j
      · subst h1; exact hwr
      · rw [if_neg h1] at hj; exact hb.wr j hj hl
  · intro o A hA hj hv
    have hold : st.all.at_ o = A → ∃ u, pval g.θ tmps w o = some u ∧ PRel G Wr g (St.ent { st with tb := put1 i e st.tb }) st.lk w o A u := by
      intro ho
      obtain ⟨u, h1, h2⟩ := h.place o A ho hj hv
      exact ⟨u, h1, hpr _ _ _ h2⟩
    cases o with
    | slot n => exact hold hA
    | cell id c =>
      rw [at_cell, ent_put1] at hA
      split at hA
      · rename_i hii; subst hii
        obtain ⟨u, h1, h2⟩ := hcells c A hA hj
        exact ⟨u, h1, hpr _ _ _ h2⟩
      · exact hold hA
  · intro id c
    rw [ent_put1]
    split
    · rename_i hii; subst hii
      by_cases hj : cellOf (some e) c = .junk
      · rw [hj]; rfl
      · obtain ⟨u, _, h2⟩ := hcells c _ rfl hj
        exact h2.notView
    · exact h.heap.noview id c
  · intro n A hA hv
    obtain ⟨v, h1, h2⟩ := h.view n A hA hv
    refine ⟨v, h1, viewRel_of h2 fun o ho => ⟨fun ys hy => ?_, rfl⟩⟩
    rw [at_put1 st i e o hi (shown_junk (viewRel_shown h2 ho))]
    exact hy

/-! ## The first stages of an operation -/

/-- The boxes are the same ones. -/
structure Tb (st st' : St) : Prop where
  lk : st'.lk = st.lk
  ent : ∀ j, st'.ent j ≠ none ↔ st.ent j ≠ none
  kept : ∀ θ, Kept θ st.ent θ st'.ent
  cell : ∀ id c, (st'.all.at_ (.cell id c)).shown = true → (st.all.at_ (.cell id c)).shown = true
theorem Tb.refl (st : St) : Tb st st := ⟨rfl, fun _ => Iff.rfl, fun _ => .refl _ _, fun _ _ h => h⟩
theorem Tb.trans {a b c : St} (h : Tb a b) (k : Tb b c) : Tb a c := ⟨k.lk.trans h.lk, fun j => (k.ent j).trans (h.ent j), fun θ => (h.kept θ).trans (k.kept θ), fun id c hc => h.cell id c (k.cell id c hc)⟩
theorem Frz.tb {st st' : St} (h : Frz st st') : Tb st st' := ⟨h.lk, h.ent, h.kept, fun id c hc => by
  rcases h.at_ (.cell id c) with h1 | ⟨e, xs, h1, h2⟩
  · rw [← h1]; exact hc
  · rw [h1]; rfl⟩
theorem tb_take1 (st : St) (n : Nat) : Tb st (st.take1 (.slot n)) := by
  unfold St.take1 St.kill1
  exact ⟨lk_setPlace _ _ _, fun j => ent_setPlace_none _ _ _ _, fun θ => kept_setPlace θ { st with sl := killIn (AV.views (.slot n)) st.sl } _ _, fun id c hc => hc⟩
theorem Tb.none {st st' : St} (h : Tb st st') {i : Nat} : st'.ent i = none ↔ st.ent i = none := by
  have := h.ent i
  constructor
  · intro h1; apply Classical.byContradiction; intro h2; exact this.2 h2 h1
  · intro h1; apply Classical.byContradiction; intro h2; exact this.1 h2 h1

theorem PRel.tb {g : Gh} {st st' : St} {w : World} {p : Org} {A : AV} {u : Value} (h : PRel G Wr g st.ent st.lk w p A u) (ht : Tb st st') : PRel G Wr g st'.ent st'.lk w p A u := by
  rw [ht.lk]
  exact PRel.mono h (.refl _) (ht.kept _) fun e xs _ b h3 h4 h5 h6 => ⟨rfl, h3, h4, fun id hid => h5 id ((ht.ent id).1 hid)⟩

theorem PRel.of_vrel {g : Gh} {T : Nat → Option Ent} {lk : List Nat} {w : World} {p : Org} {A : AV} {u : Value} (h : VRel g.F g.θ T A u) : PRel G Wr g T lk w p A u := by
  cases A with
  | own e xs => simp [VRel] at h
  | _ => exact h

theorem solid_noview {A : AV} (h : A.solid = true) : isView A = false := by cases A <;> simp_all [AV.solid, isView]
theorem solid_noown {A : AV} (h : A.solid = true) : ∀ e xs, A ≠ .own e xs := by rintro e xs rfl; cases h

variable {g : Gh} {V : Vw} {st : St} {a : Act} {w : World} (hV : Shows V st) (h : Inv G Wr g st a.tmps w) (tie : Ties G P)

theorem OwnRel.prel {g : Gh} {T lk w p e xs u} (h : OwnRel G Wr g T lk w p e xs u) : PRel G Wr g T lk w p (.own e xs) u := h

theorem GStep.reown (g : Gh) {ow' : Nat → Option Org} (h : ∀ b, ¬ Wr b → ow' b = g.ow b) : GStep Wr g { g with ow := ow' } := ⟨.refl _, rfl, fun _ _ => ⟨rfl, rfl⟩, h⟩

include hV h in
/-- Cells that are put into new memory, or over a box's: frozen, taken from where they stood. -/
theorem fresh_stage {x : Operand} {vs : List AV} {f t : List Org} (hx : fresh V x = some (vs, f, t)) (p : Nat → Org) :
    ∃ g1, GStep Wr g g1 ∧ Inv G Wr g1 (t.foldl St.take1 (f.foldl St.freeze1 st)) a.tmps w ∧ Tb st (t.foldl St.take1 (f.foldl St.freeze1 st)) ∧ (a.eval x).cells.toList.length = vs.length ∧
      ∀ (j : Nat) (A : AV), vs[j]? = some A → ∃ u, (a.eval x).cells.toList[j]? = some u ∧ PRel G Wr g1 (t.foldl St.take1 (f.foldl St.freeze1 st)).ent (t.foldl St.take1 (f.foldl St.freeze1 st)).lk w (p j) A u := by
  unfold fresh at hx
  split at hx
  · rename_i e xs hx'
    obtain ⟨t', rfl, ht, h1, h2⟩ := opnd_own hV h hx'
    simp only [Option.some.injEq, Prod.mk.injEq] at hx
    obtain ⟨rfl, rfl, rfl⟩ := hx
    obtain ⟨u, ow', k1, k2, k3, k4⟩ := h.take (o := .slot t') ht rfl (p 0)
    simp only [pval, h1, Option.some.injEq] at k1
    subst k1
    refine ⟨_, GStep.reown g k4, k2, tb_take1 st t', ?_, ?_⟩
    · obtain ⟨q, cap, hq⟩ := h2.header
      simp [hq, Value.cells]
    · intro j A hj
      cases j with
      | succ j => simp at hj
      | zero =>
        simp at hj; subst hj
        refine ⟨_, ?_, PRel.tb k3.prel (tb_take1 st t')⟩
        obtain ⟨q, cap, hq⟩ := h2.header
        simp [hq, Value.cells]
  · rename_i o k hx'
    obtain ⟨t', rfl, ht, h1, h2⟩ := opnd_view hV h hx' rfl
    split at hx
    · rename_i d f' hd
      simp only [Option.some.injEq, Prod.mk.injEq] at hx
      obtain ⟨rfl, rfl, rfl⟩ := hx
      obtain ⟨g1, k1, _, k3, k4⟩ := h.freezeAll f' (fun o ho => by rw [hV.locked]; exact deepAt_unlocked hd o ho)
      have hrep := deepAt_rep hV k3 hd k4 (fun _ ho => ho) ht h1
      have hcell : (a.eval (.tmp t')).cells = #[a.eval (.tmp t')] := by
        simp only [ViewRel] at h2
        obtain ⟨xs, q, cap, _, _, hq, _⟩ := h2
        simp [hq, Value.cells]
      refine ⟨g1, k1, k3, k4.toFrz.tb, by simp [hcell], ?_⟩
      intro j A hj
      cases j with
      | succ j => simp at hj
      | zero =>
        simp at hj; subst hj
        exact ⟨_, by rw [hcell]; rfl, by simpa only [PRel, VRel] using hrep⟩
    · cases hx
  · rename_i A hno hnv hx'
    cases hs : A.solid with
    | false => simp [ask, hs] at hx
    | true =>
      simp only [ask, hs, cond_true, Option.some.injEq, Prod.mk.injEq] at hx
      obtain ⟨rfl, rfl, rfl⟩ := hx
      have hr := cells_rel (opnd_rel hV h hx' (solid_noown hs) (solid_noview hs))
      rw [VRelL_iff] at hr
      refine ⟨g, .refl g, h, .refl st, hr.1, ?_⟩
      intro j A' hj
      obtain ⟨u, k1, k2⟩ := hr.2 j A' hj
      exact ⟨u, k1, PRel.of_vrel k2⟩
  · cases hx

include hV h in
/-- Something is put into a place. -/
theorem putIn_stage {o : Org} {x : Operand} {v : AV} {f t : List Org} (hx : putIn V o x = some (v, f, t)) :
    ∃ g1, GStep Wr g g1 ∧ Inv G Wr g1 (t.foldl St.take1 (f.foldl St.freeze1 st)) a.tmps w ∧ Tb st (t.foldl St.take1 (f.foldl St.freeze1 st)) ∧ (t ≠ [] → (∃ n, t = [.slot n])) ∧ isView v = false ∧
      PRel G Wr g1 (t.foldl St.take1 (f.foldl St.freeze1 st)).ent (t.foldl St.take1 (f.foldl St.freeze1 st)).lk w o v (a.eval x) := by
  unfold putIn at hx
  split at hx
  · rename_i e xs hx'
    obtain ⟨t', rfl, ht, h1, h2⟩ := opnd_own hV h hx'
    simp only [Option.some.injEq, Prod.mk.injEq] at hx
    obtain ⟨rfl, rfl, rfl⟩ := hx
    obtain ⟨u, ow', k1, k2, k3, k4⟩ := h.take (o := .slot t') ht rfl o
    simp only [pval, h1, Option.some.injEq] at k1
    subst k1
    exact ⟨_, GStep.reown g k4, k2, tb_take1 st t', fun _ => ⟨t', rfl⟩, rfl, PRel.tb k3.prel (tb_take1 st t')⟩
  · rename_i o' k hx'
    obtain ⟨t', rfl, ht, h1, h2⟩ := opnd_view hV h hx' rfl
    cases ho : o'.eq o with
    | true =>
      rw [ho] at hx
      rw [Org.eq_iff] at ho
      subst ho
      simp only [cond_true] at hx
      split at hx
      · rename_i e ys hat
        have hat' := hV.at_ (o := o') (by rw [hat]; simp)
        rw [hat] at hat'
        simp only [Option.some.injEq, Prod.mk.injEq] at hx
        obtain ⟨rfl, rfl, rfl⟩ := hx
        refine ⟨g, .refl g, h, .refl st, by simp, rfl, ?_⟩
        simp only [ViewRel] at h2
        obtain ⟨xs, q, cap, k1, k2, k3, k4⟩ := h2
        obtain ⟨u, m1, m2⟩ := h.place o' _ hat' (by simp) rfl
        have hxs : xs = ys := by
          rcases k1 with ⟨e', k1⟩ | k1
          · rw [hat'] at k1; simp only [AV.own.injEq] at k1; exact k1.2.symm
          · rw [hat'] at k1; cases k1
        subst hxs
        rw [k2] at m1
        simp only [Option.some.injEq] at m1
        subst m1
        rw [k3]
        simp only [PRel, List.foldl_nil] at m2 ⊢
        rcases m2 with ⟨rfl, hq⟩ | ⟨b, cap', cur, ty, size, q1, q2, q3, q4, q5, q6, q7, q8, q9, q10, q11, q12⟩
        · simp only [List.length_nil, Value.slice.injEq] at hq
          obtain ⟨rfl, _, rfl⟩ := hq
          have : k = 0 := by simpa using k4
          subst this
          exact .inl ⟨by simp, rfl⟩
        · simp only [Value.slice.injEq] at q3
          obtain ⟨rfl, _, rfl⟩ := q3
          have hlk : (xs.take k).length = k := by simp [List.length_take, Nat.min_eq_left k4]
          refine .inr ⟨b, cap, cur, ty, size, q1, q2, by rw [hlk], by rw [hlk]; omega, q5, q6, fun y hy => q7 y (List.mem_of_mem_take hy), ?_, q9, q10, q11, q12⟩
          have hsplit : flat xs = flat (xs.take k) ++ flat (xs.drop k) := by rw [← flat_append, List.take_append_drop]
          rw [hsplit, Row_append] at q8
          exact q8.1
      · rename_i ys hat
        have hat' := hV.at_ (o := o') (by rw [hat]; simp)
        rw [hat] at hat'
        simp only [Option.some.injEq, Prod.mk.injEq] at hx
        obtain ⟨rfl, rfl, rfl⟩ := hx
        exact ⟨g, .refl g, h, .refl st, by simp, rfl, by simpa only [PRel, VRel] using (view_rep h h2 hat').2⟩
      · cases hx
    | false =>
      rw [ho] at hx
      simp only [cond_false] at hx
      split at hx
      · rename_i d f' hd
        simp only [Option.some.injEq, Prod.mk.injEq] at hx
        obtain ⟨rfl, rfl, rfl⟩ := hx
        obtain ⟨g1, k1, _, k3, k4⟩ := h.freezeAll f' (fun o ho => by rw [hV.locked]; exact deepAt_unlocked hd o ho)
        have hrep := deepAt_rep hV k3 hd k4 (fun _ ho => ho) ht h1
        exact ⟨g1, k1, k3, k4.toFrz.tb, by simp, rfl, by simpa only [PRel, VRel] using hrep⟩
      · cases hx
  · rename_i A hno hnv hx'
    cases hs : A.solid with
    | false => simp [ask, hs] at hx
    | true =>
      simp only [ask, hs, cond_true, Option.some.injEq, Prod.mk.injEq] at hx
      obtain ⟨rfl, rfl, rfl⟩ := hx
      exact ⟨g, .refl g, h, .refl st, by simp, solid_noview hs, PRel.of_vrel (opnd_rel hV h hx' (solid_noown hs) (solid_noview hs))⟩
  · cases hx

end
end Go.Abs
end

section
namespace Go.Abs

section
variable {G : Ctx} {Wr : Nat → Prop} {P : Program}

/-- An operation does what the interpreter says. -/
def Good (G : Ctx) (Wr : Nat → Prop) (P : Program) (base : Nat) (g : Gh) (st : St) (a : Act) (w : World) (o : Oper) (out : Out) : Prop :=
  ∀ next Q, Next1 G Wr base g a w (st.put o.dst out) next → o.wp P a w next Q

theorem put_tmps (a : Act) (dst : Option Tmp) (v : Value) : (a.put dst v).tmps = match dst with | some d => a.tmps.setIfInBounds d v | none => a.tmps := by
  cases dst <;> rfl

variable {g : Gh} {V : Vw} {st : St} {a : Act} {w : World} {base nt : Nat}

/-- The last stage: the slot that is written. -/
theorem good_last {o : Oper} {out : Out} {g1 : Gh} {st1 : St} {w1 : World} {v : Value} {res : Next} (hres : (execOp a.eval o).run P w = .ok res w1) (hv : res = .value v ∨ (res = .skip ∧ v = undef))
    (hsz : a.tmps.size = nt) (hd : okDst nt o.dst = true) (hinv : Inv G Wr g1 st1 a.tmps w1) (hc : Chg Wr base g w g1 w1)
    (hput : st.put o.dst out = match o.dst with | some d => st1.setSlot d out.v | none => st1)
    (hA : ∀ d, o.dst = some d → if isView out.v then ViewRel g1 st1 a.tmps w1 out.v v ∧ out.v.views (.slot d) = false else out.v ≠ .junk → PRel G Wr g1 st1.ent st1.lk w1 (.slot d) out.v v) : Good G Wr P base g st a w o out := by
  intro next Q hn
  have hgo : next (a.put o.dst v) w1 := by
    refine hn g1 _ w1 ?_ hc (Act.put_defers' _ _ _) (Act.put_size _ _ _)
    rw [hput, put_tmps]
    cases hdst : o.dst with
    | none => exact hinv
    | some d =>
      have hlt : d < a.tmps.size := by
        rw [hsz]
        simpa [okDst, hdst, blt_dec] using hd
      exact hinv.setSlot hlt (hA d hdst)
  unfold Oper.wp
  rw [hres]
  rcases hv with rfl | ⟨rfl, rfl⟩
  · rw [Oper.upon_value]; exact hgo
  · rw [Oper.upon_skip]; exact hgo

/-- What changes no memory. -/
theorem Simple.good {o : Oper} {out : Out} (h : Inv G Wr g st a.tmps w) (hV : Shows V st) (hsz : a.tmps.size = nt) (hd : okDst nt o.dst = true) (hvd : ∀ d, o.dst = some d → out.v.views (.slot d) = false)
    (hs : Simple G Wr g V st a w out ((execOp a.eval o).run P w)) : Good G Wr P base g st a w o out := by
  obtain ⟨A, f, v, rfl, hr, hl, hA⟩ := hs
  intro next Q hn
  exact wp_simple h hsz hd hvd hr (fun p hp => by rw [hV.locked]; exact hl p hp) hA hn

theorem GStep.chg_heap {g g' : Gh} (h : GStep Wr g g') (base : Nat) (w : World) : Chg Wr base g w g' w := h.chg base w

/-! ## 'assign' -/

theorem put_ft (st : St) (dst : Option Nat) (v : AV) (f t : List Org) : st.put dst { v := v, frz := f, take := t } = match dst with
    | some d => (t.foldl St.take1 (f.foldl St.freeze1 st)).setSlot d v
    | none => t.foldl St.take1 (f.foldl St.freeze1 st) := by
  unfold St.put; rfl

theorem PRel.typed {g : Gh} {T lk w p A u} (e : TypeId) (h : PRel G Wr g T lk w p A u) : PRel G Wr g T lk w p (A.typed e) u := by
  cases A <;> first
    | exact h

theorem assign_good (hV : Shows V st) (h : Inv G Wr g st a.tmps w) {x : Operand} {out : Out} {o : Oper} (ho : o.op = .assign x) (hsz : a.tmps.size = nt) (hd : okDst nt o.dst = true)
    (hm : assignOut G V o x = some out) : Good G Wr P base g st a w o out := by
  unfold assignOut at hm
  split at hm
  · rename_i d hdst
    split at hm
    · rename_i v f t hx
      simp only [Option.some.injEq] at hm; subst hm
      obtain ⟨g1, h1, h2, h3, _, h5, h6⟩ := putIn_stage hV h hx
      have hv : isView (bif isConst x then v.typed (G.elem0 o.type) else v) = false := by
        cases isConst x with
        | true => simpa only [cond_true, isView_typed] using h5
        | false => exact h5
      refine good_last (v := a.eval x) (by simp [execOp, ho]) (.inl rfl) hsz hd h2 (h1.chg base w) (put_ft _ _ _ _ _) ?_
      intro d' hd'
      rw [hdst] at hd'
      simp only [Option.some.injEq] at hd'
      subst hd'
      simp only [hv, Bool.false_eq_true, if_false]
      intro _
      cases isConst x with
      | true => exact h6.typed _
      | false => exact h6
    · cases hm
  · cases hm

/-! ## New boxes -/

theorem Fz.ok.free {F : Fz} {w : World} (h : F.ok w) {b : Nat} (hb : w.heap.size ≤ b) : F.free b := by
  constructor
  · intro i
    cases hc : F.cell b i with
    | none => rfl
    | some v =>
      have := World.block_lt_of_cell? w ⟨b, i, none⟩ (h.cell b i v hc)
      simp at this; omega
  · cases hc : F.map b with
    | none => rfl
    | some es =>
      obtain ⟨clock, hm⟩ := h.map b es hc
      have := heap_lt hm
      omega

/-- The ghosts of one more box. -/
def Gh.new (g : Gh) (id b : Nat) : Gh := { g with θ := fun j => if j = id then b else g.θ j, ow := fun b' => if b' = b then none else g.ow b' }

theorem push_old (w w' : World) (obj : Obj) (hw : w'.heap = w.heap.push obj) (b : Nat) (hb : b < w.heap.size) : w'.heap[b]? = w.heap[b]? := by
  rw [hw, Array.getElem?_push]; simp [Nat.ne_of_lt hb]
theorem push_new (w w' : World) (obj : Obj) (hw : w'.heap = w.heap.push obj) : w'.heap[w.heap.size]? = some obj := by
  rw [hw]; simp

theorem Inv.newBox {g : Gh} {st : St} {tmps : Array Value} {w w' : World} (h : Inv G Wr g st tmps w) {id : Nat} (hid : st.ent id = none) {obj : Obj} (hw : w'.heap = w.heap.push obj) {e : Ent}
    (hbox : ∀ cs, e = .box cs → ∃ cur ty, obj = .cells cur ty (0, 0) ∧ cur.size = cs.length)
    (hmap : ∀ kv, e = .map kv → kv = [] ∧ ∃ clock, obj = .map #[] clock)
    (hcells : ∀ cs cur ty, e = .box cs → obj = .cells cur ty (0, 0) → ∀ (c : Nat) A, cs[c]? = some A → A ≠ .junk → ∃ u : Value, cur[c]? = some u ∧ PRel G Wr g st.ent st.lk w (.cell id c) A u) :
    Inv G Wr (g.new id w.heap.size) { st with tb := put1 id e st.tb } tmps w' := by
  have hb := h.heap.toBase
  have hθ : ∀ i, st.ent i ≠ none → (g.new id w.heap.size).θ i = g.θ i := by
    intro i hi
    simp only [Gh.new]
    rw [if_neg]; rintro rfl; exact hi hid
  have hsz : w.heap.size ≤ w'.heap.size := by rw [hw]; simp
  have how : ∀ b p, g.ow b = some p → b < w.heap.size → (g.new id w.heap.size).ow b = some p := by
    intro b p hp hlt
    simp only [Gh.new]
    rw [if_neg (Nat.ne_of_lt hlt)]; exact hp
  have h1 : Inv G Wr (g.new id w.heap.size) st tmps w' := h.ext rfl hθ how (push_old w w' obj hw) hsz
  have hθid : (g.new id w.heap.size).θ id = w.heap.size := by simp [Gh.new]
  refine h1.addEnt hid ?_ ?_ ?_ ?_ ?_ ?_ ?_
  · intro cs he
    obtain ⟨cur, ty, k1, k2⟩ := hbox cs he
    exact ⟨cur, ty, by rw [hθid, push_new w w' obj hw, k1], k2⟩
  · intro kv he
    obtain ⟨rfl, clock, k1⟩ := hmap kv he
    exact ⟨#[], clock, by rw [hθid, push_new w w' obj hw, k1], rfl⟩
  · intro j hj
    rw [hθ j hj, hθid]
    exact Nat.ne_of_lt (hb.block hj)
  · rw [hθid]
    exact hb.ok.free (Nat.le_refl _)
  · rw [hθid]
    exact hb.big _ (Nat.le_refl _)
  · rw [hθid]
    simp [Gh.new]
  · intro c A hA hj
    cases e with
    | map kv =>
      obtain ⟨rfl, _⟩ := hmap kv rfl
      simp [cellOf] at hA
      exact absurd hA.symm hj
    | box cs =>
      obtain ⟨cur, ty, k1, k2⟩ := hbox cs rfl
      have hA' : cs[c]? = some A := by
        simp only [cellOf] at hA
        split at hA
        · rename_i v hv; rw [hv, hA]
        · exact absurd hA.symm hj
      obtain ⟨u, m1, m2⟩ := hcells cs cur ty rfl k1 c A hA' hj
      refine ⟨u, by rw [hθid]; simp only [cellVal, push_new w w' obj hw, k1]; exact m1, ?_⟩
      refine PRel.mono m2 (.refl _) ⟨fun i hi => ⟨hi, hθ i ?_⟩, fun i hi => ⟨hi, hθ i ?_⟩⟩ ?_
      · intro he; rw [he] at hi; cases hi
      · intro he; rw [he] at hi; cases hi
      · intro e xs _ b h3 h4 h5 h6
        exact ⟨push_old w w' obj hw b h6, how b _ h3 h6, h4, fun id hid => by rw [hθ id hid]; exact h5 id hid⟩

theorem chg_push {g g1 : Gh} {w w' : World} {obj : Obj} {id : Nat} (h1 : GStep Wr g g1) (hbig : ∀ b, w.heap.size ≤ b → Wr b) (hw : w' = w.alloc obj) (hid : base ≤ id) : Chg Wr base g w (g1.new id w.heap.size) w' := by
  subst hw
  have hh : (w.alloc obj).heap = w.heap.push obj := rfl
  refine ⟨h1.le, h1.new, fun b hb => ?_, fun i hi => ?_, fun b hb => ?_, by rw [hh]; simp, rfl, rfl, rfl⟩
  · simp only [Gh.new]
    rw [if_neg]
    · exact h1.ow b hb
    · rintro rfl; exact hb (hbig _ (Nat.le_refl _))
  · simp only [Gh.new]
    rw [if_neg (by omega), h1.θ]
  · refine push_old w _ obj hh b ?_
    rcases Nat.lt_or_ge b w.heap.size with h | h
    · exact h
    · exact absurd (hbig b h) hb

theorem put_fte (st : St) (dst : Option Nat) (v : AV) (f t : List Org) (id : Nat) (e : Ent) : st.put dst { v := v, frz := f, take := t, ents := [(id, e)] } =
    let st1 := t.foldl St.take1 (f.foldl St.freeze1 st)
    let st2 : St := { st1 with tb := put1 id e st1.tb }
    match dst with
    | some d => st2.setSlot d v
    | none => st2 := by
  unfold St.put; rfl

/-- A new box, of the number that goes with its slot: what of the view is needed. -/
def SeesNew (V : Vw) (st : St) (base : Nat) (dst : Option Nat) : Prop := ∀ d, dst = some d → V.get (base + d) = st.ent (base + d)

theorem newBox_out {dst : Option Nat} {e : Ent} {v : Nat → AV} {out : Out} (hm : newBox V base dst e v = some out) (hsee : SeesNew V st base dst) :
    ∃ d, dst = some d ∧ st.ent (base + d) = none ∧ out = { v := v (base + d), ents := [(base + d, e)] } := by
  unfold newBox at hm
  split at hm
  · rename_i d
    split at hm
    · rename_i hg
      simp only [Option.some.injEq] at hm
      exact ⟨d, rfl, (hsee d rfl) ▸ hg, hm.symm⟩
    · cases hm
  · cases hm

theorem makeMap_good (h : Inv G Wr g st a.tmps w) {T : TypeId} {out : Out} {o : Oper} (ho : o.op = .makeMap T none) (hsz : a.tmps.size = nt) (hd : okDst nt o.dst = true)
    (hsee : SeesNew V st base o.dst) (hm : newBox V base o.dst (.map []) (fun id => .map id) = some out) : Good G Wr P base g st a w o out := by
  obtain ⟨d, hdst, hid, rfl⟩ := newBox_out hm hsee
  have hinv := h.newBox (w' := w.alloc (.map #[] 0)) (obj := .map #[] 0) (e := .map []) hid rfl (by simp) (fun kv hk => ⟨by simpa using hk.symm, 0, rfl⟩) (by simp)
  refine good_last (v := .map (some w.heap.size)) (w1 := w.alloc (.map #[] 0)) (by simp [execOp, ho, Instr.makeMap]) (.inl rfl) hsz hd hinv (chg_push (.refl g) h.heap.big rfl (by omega)) (put_fte _ _ _ [] [] _ _) ?_
  intro d' _
  simp only [isView, Bool.false_eq_true, if_false]
  intro _
  simp only [PRel, VRel, ent_put1, if_true, isMapE, and_true]
  simp [Gh.new]

theorem alloc_good (tie : Ties G P) (h : Inv G Wr g st a.tmps w) {T : TypeId} {out : Out} {o : Oper} (ho : o.op = .alloc T) (hsz : a.tmps.size = nt) (hd : okDst nt o.dst = true)
    (hsee : SeesNew V st base o.dst) (hm : allocOut G V base o.dst T = some out) : Good G Wr P base g st a w o out := by
  unfold allocOut at hm
  split at hm
  · rename_i z hz
    obtain ⟨d, hdst, hid, rfl⟩ := newBox_out hm hsee
    obtain ⟨zv, i, z1, z2, z3, z4⟩ := zero_run tie hz
    have hzr := z4 g.F g.θ st.ent
    rw [VRelL_iff] at hzr
    have hinv := h.newBox (w' := w.alloc (.cells zv.cells T)) (obj := .cells zv.cells T (0, 0)) (e := .box z) hid rfl
      (fun cs he => ⟨zv.cells, T, rfl, by simp only [Ent.box.injEq] at he; subst he; simpa using hzr.1⟩) (by simp) ?_
    · refine good_last (v := .pointer (some ⟨w.heap.size, 0, none⟩)) (w1 := w.alloc (.cells zv.cells T)) (by simp [execOp, ho, Instr.alloc, zeroValue, typeInfo, z1, z2, newVar, newRow]) (.inl rfl) hsz hd hinv (chg_push (.refl g) h.heap.big rfl (by omega)) (put_fte _ _ _ [] [] _ _) ?_
      intro d' _
      simp only [isView, Bool.false_eq_true, if_false]
      intro _
      simp only [PRel, VRel, ent_put1, if_true, isBoxE, and_true]
      simp [Gh.new]
    · intro cs cur ty he hobj c A hA hj
      simp only [Ent.box.injEq] at he; subst he
      simp only [Obj.cells.injEq] at hobj
      obtain ⟨rfl, _, _⟩ := hobj
      obtain ⟨u, k1, k2⟩ := hzr.2 c A hA
      exact ⟨u, by simpa using k1, PRel.of_vrel k2⟩
  · cases hm

theorem box_good (hV : Shows V st) (h : Inv G Wr g st a.tmps w) {T : TypeId} {x : Operand} {out : Out} {o : Oper} (ho : o.op = .box T x) (hsz : a.tmps.size = nt) (hd : okDst nt o.dst = true)
    (hsee : SeesNew V st base o.dst) (hm : boxOut G V base o.dst T x = some out) : Good G Wr P base g st a w o out := by
  unfold boxOut at hm
  split at hm
  · rename_i n vs f t hn hx
    cases hl : Nat.beq vs.length n with
    | false => rw [hl] at hm; cases hm
    | true =>
      rw [hl] at hm
      simp only [cond_true] at hm
      split at hm
      · rename_i out0 hnew
        simp only [Option.some.injEq] at hm; subst hm
        obtain ⟨d, hdst, hid, rfl⟩ := newBox_out hnew hsee
        obtain ⟨g1, h1, h2, h3, h4, h5⟩ := fresh_stage hV h hx (fun c => .cell (base + d) c)
        have hid' := h3.none.2 hid
        have hinv := h2.newBox (w' := w.alloc (.cells (a.eval x).cells T)) (obj := .cells (a.eval x).cells T (0, 0)) (e := .box vs) hid' rfl
          (fun cs he => ⟨(a.eval x).cells, T, rfl, by simp only [Ent.box.injEq] at he; subst he; simpa using h4⟩) (by simp) ?_
        · refine good_last (v := .pointer (some ⟨w.heap.size, 0, none⟩)) (w1 := w.alloc (.cells (a.eval x).cells T)) (by simp [execOp, ho, Instr.box, newVar, newRow]) (.inl rfl) hsz hd hinv (chg_push h1 h.heap.big rfl (by omega)) (put_fte _ _ _ f t _ _) ?_
          intro d' _
          simp only [isView, Bool.false_eq_true, if_false]
          intro _
          simp only [PRel, VRel, ent_put1, if_true, isBoxE, and_true]
          simp [Gh.new]
        · intro cs cur ty he hobj c A hA hj
          simp only [Ent.box.injEq] at he; subst he
          simp only [Obj.cells.injEq] at hobj
          obtain ⟨rfl, _, _⟩ := hobj
          obtain ⟨u, k1, k2⟩ := h5 c A hA
          exact ⟨u, by simpa using k1, k2⟩
      · cases hm
  · cases hm

end
end Go.Abs
end

section
namespace Go.Abs

section
variable {G : Ctx} {Wr : Nat → Prop} {P : Program}
variable {g : Gh} {V : Vw} {st : St} {a : Act} {w : World} {base nt : Nat}

theorem cond_some {α : Type} {b : Bool} {x : Option α} {y : α} (h : (bif b then x else none) = some y) : b = true ∧ x = some y := by
  cases b with
  | true => exact ⟨rfl, h⟩
  | false => cases h

theorem rep_cells {F : Fz} {d : DV} {v : Value} (h : Rep F d v) : RepL F d.cells v.cells.toList := by
  have one : ∀ u : Value, u.cells = #[u] → Rep F d u → d.cells = [d] → RepL F d.cells u.cells.toList := by
    intro u hu hd hc
    rw [hu, hc]
    simp only [RepL]
    exact ⟨u, [], rfl, hd, rfl⟩
  cases d with
  | agg cs =>
    simp only [Rep] at h
    obtain ⟨us, rfl, h⟩ := h
    simpa [DV.cells, Value.cells] using h
  | bool x => exact one v (by simp only [Rep] at h; subst h; rfl) h rfl
  | int k n => exact one v (by simp only [Rep] at h; subst h; rfl) h rfl
  | str s => exact one v (by simp only [Rep] at h; subst h; rfl) h rfl
  | nilp => exact one v (by simp only [Rep] at h; subst h; rfl) h rfl
  | ptr cs o => exact one v (by simp only [Rep] at h; obtain ⟨b, o', rfl, _⟩ := h; rfl) h rfl
  | lst xs => exact one v (by simp only [Rep] at h; obtain ⟨b, o', rfl, _⟩ := h; rfl) h rfl
  | nilm => exact one v (by simp only [Rep] at h; subst h; rfl) h rfl
  | map kv => exact one v (by simp only [Rep] at h; obtain ⟨b, o', rfl, _⟩ := h; rfl) h rfl
  | fn f cs => exact one v (by simp only [Rep] at h; obtain ⟨b, rfl, _⟩ := h; rfl) h rfl
  | nilf => exact one v (by simp only [Rep] at h; subst h; rfl) h rfl
  | ifc t d => exact one v (by simp only [Rep] at h; obtain ⟨b, rfl, _⟩ := h; rfl) h rfl
  | nili => exact one v (by simp only [Rep] at h; subst h; rfl) h rfl

theorem RepL.length {F : Fz} {cs : List DV} {us : List Value} (h : RepL F cs us) : us.length = cs.length := ((RepL_iff cs us).1 h).1

theorem RepL.splice {F : Fz} {cs vs : List DV} {us ws : List Value} (h : RepL F cs us) (k : RepL F vs ws) (off n : Nat) :
    RepL F (cs.take off ++ vs ++ cs.drop n) (us.take off ++ ws ++ us.drop n) := by
  rw [RepL_iff] at h k ⊢
  obtain ⟨h1, h2⟩ := h
  obtain ⟨k1, k2⟩ := k
  refine ⟨by simp [h1, k1], fun j A hA => ?_⟩
  simp only [List.append_assoc, List.getElem?_append, List.length_take, h1, k1] at hA ⊢
  split at hA
  · rename_i hj
    rw [if_pos hj]
    have hjo : j < off := by omega
    rw [List.getElem?_take, if_pos hjo] at hA ⊢
    exact h2 j A hA
  · rename_i hj
    rw [if_neg hj]
    split at hA
    · rename_i hj2
      rw [if_pos hj2]
      exact k2 _ A hA
    · rename_i hj2
      rw [if_neg hj2]
      rw [List.getElem?_drop] at hA ⊢
      exact h2 _ A hA

theorem flat_set {k : Nat} : ∀ {xs : List DV} (_ : ∀ x ∈ xs, x.cells.length = k) (i : Nat) (v : DV), i < xs.length → flat (xs.set i v) = (flat xs).take (i * k) ++ v.cells ++ (flat xs).drop (i * k + k)
  | [], _, i, v, hi => by simp at hi
  | x :: r, h, 0, v, hi => by
    have hx := h x (by simp)
    simp only [List.set_cons_zero, flat_cons, Nat.zero_mul, List.take_zero, List.nil_append, Nat.zero_add]
    rw [← hx, List.drop_left]
  | x :: r, h, i + 1, v, hi => by
    have hx := h x (by simp)
    simp only [List.set_cons_succ, flat_cons]
    rw [flat_set (fun y hy => h y (by simp [hy])) i v (by simpa using hi), Nat.succ_mul]
    have e1 : i * k + k = x.cells.length + i * k := by omega
    have e2 : i * k + k + k = x.cells.length + (i * k + k) := by omega
    rw [e2, e1, List.take_length_add_append, List.drop_length_add_append]
    simp [List.append_assoc]

theorem flat_replicate (m : Nat) (z : DV) (k : Nat) (hz : z.cells.length = k) (hk : 0 < k) (j : Nat) : (flat (List.replicate m z))[j]? = if j < m * k then z.cells[j % k]? else none := by
  induction m generalizing j with
  | zero => simp [flat]
  | succ m ih =>
    rw [List.replicate_succ, flat_cons, List.getElem?_append, ih, hz]
    by_cases h1 : j < k
    · have h2 : j < (m + 1) * k := by rw [Nat.succ_mul]; omega
      rw [if_pos h1, if_pos h2, Nat.mod_eq_of_lt h1]
    · rw [if_neg h1]
      have e : j % k = (j - k) % k := by rw [Nat.mod_eq_sub_mod (by omega)]
      rw [e]
      by_cases h2 : j - k < m * k
      · have h3 : j < (m + 1) * k := by rw [Nat.succ_mul]; omega
        rw [if_pos h2, if_pos h3]
      · have h3 : ¬ j < (m + 1) * k := by rw [Nat.succ_mul]; omega
        rw [if_neg h2, if_neg h3]

/-- Rows of zeroes. -/
theorem made_rel {F : Fz} {z : DV} {zv : Value} (hz : Rep F z zv) {k : Nat} (hk : z.cells.length = k) (h0 : 0 < k) (m : Nat) : RepL F (flat (List.replicate m z)) (madeCells zv.cells (m * k)).toList := by
  have hc := rep_cells hz
  have hlen := hc.length
  rw [RepL_iff] at hc ⊢
  have hsz : zv.cells.size = k := by simpa [hk] using hlen
  refine ⟨?_, fun j d hj => ?_⟩
  · have h1 := flat_length (k := k) (xs := List.replicate m z) (fun x hx => by rw [(List.mem_replicate.1 hx).2]; exact hk)
    simp [madeCells, h1]
  · rw [flat_replicate m z k hk h0] at hj
    split at hj
    · rename_i hlt
      obtain ⟨v, k1, k2⟩ := hc.2 (j % k) d hj
      refine ⟨v, ?_, k2⟩
      have hm : j % k < zv.cells.size := by rw [hsz]; exact Nat.mod_lt _ h0
      simp only [madeCells, Array.toList_map, Array.toList_range, List.getElem?_map, hsz]
      rw [List.getElem?_range hlt]
      simp only [Option.map_some, Option.some.injEq]
      simp only [Array.getElem?_toList] at k1
      rw [getElem!_pos zv.cells (j % k) hm]
      exact (Array.getElem?_eq_some_iff.1 k1).2
    · cases hj

theorem RepL.row {F : Fz} {cs : List DV} {us : Array Value} (h : RepL F cs us.toList) : Row F cs (fun j => us[j]?) := by
  intro j d hj
  obtain ⟨v, k1, k2⟩ := ((RepL_iff _ _).1 h).2 j d hj
  exact ⟨v, by simpa using k1, k2⟩

/-! ## A new row -/

def Gh.row (g : Gh) (p : Org) (b : Nat) : Gh := { g with ow := fun b' => if b' = b then some p else g.ow b' }

theorem Inv.newRow {g : Gh} {st : St} {tmps : Array Value} {w w' : World} (h : Inv G Wr g st tmps w) {cur : Array Value} {ty : TypeId} (hw : w'.heap = w.heap.push (.cells cur ty (0, 0))) (p : Org) {e : TypeId} {size cap : Nat} {xs : List DV}
    (h1 : G.size e = some size) (h2 : 0 < size) (h3 : xs.length ≤ cap) (h4 : cur.size = cap * size) (h5 : ∀ x ∈ xs, x.cells.length = size) (h6 : Row g.F (flat xs) (fun j => cur[j]?)) :
    Inv G Wr (g.row p w.heap.size) st tmps w' ∧ OwnRel G Wr (g.row p w.heap.size) st.ent st.lk w' p e xs (.slice (some ⟨w.heap.size, 0, none⟩) xs.length cap) := by
  have hb := h.heap.toBase
  constructor
  · refine h.ext rfl (fun _ _ => rfl) ?_ (push_old w w' _ hw) (by rw [hw]; simp)
    intro b q hq hlt
    simp only [Gh.row]
    rw [if_neg (Nat.ne_of_lt hlt)]; exact hq
  · refine .inr ⟨w.heap.size, cap, cur, ty, size, h1, h2, rfl, h3, push_new w w' _ hw, h4, h5, h6, by simp [Gh.row], hb.ok.free (Nat.le_refl _), fun id hid => Nat.ne_of_lt (hb.block hid), fun _ => hb.big _ (Nat.le_refl _)⟩

theorem chg_row {g g1 : Gh} {w w' : World} {obj : Obj} {p : Org} (h1 : GStep Wr g g1) (hbig : ∀ b, w.heap.size ≤ b → Wr b) (hw : w'.heap = w.heap.push obj) (ht : w'.tape = w.tape) (ho : w'.os = w.os) (hu : w'.output = w.output) : Chg Wr base g w (g1.row p w.heap.size) w' := by
  refine ⟨h1.le, h1.new, fun b hb => ?_, fun i hi => ?_, fun b hb => ?_, by rw [hw]; simp, ho, ht, hu⟩
  · simp only [Gh.row]
    rw [if_neg]
    · exact h1.ow b hb
    · rintro rfl; exact hb (hbig _ (Nat.le_refl _))
  · simp only [Gh.row]; rw [h1.θ]
  · refine push_old w _ obj hw b ?_
    rcases Nat.lt_or_ge b w.heap.size with h | h
    · exact h
    · exact absurd (hbig b h) hb

theorem put_v (st : St) (dst : Option Nat) (v : AV) : st.put dst { v := v } = match dst with
    | some d => st.setSlot d v
    | none => st := by
  unfold St.put; rfl

theorem Ctx.elem_und {t e : TypeId} (h : G.elem t = some e) : G.und t = some (.slice e) := by
  unfold Ctx.elem at h
  split at h
  · rename_i e' hu
    simp only [Option.some.injEq] at h; subst h; exact hu
  · cases h

theorem Ctx.size_inf {t : TypeId} {n : Nat} (h : G.size t = some n) : ∃ z b, G.inf t = some (z, n, b) := by
  unfold Ctx.size at h
  split at h
  · rename_i z n' b hi
    simp only [Option.some.injEq] at h; subst h; exact ⟨z, b, hi⟩
  · cases h
theorem Ctx.bytes_inf {t : TypeId} {b : Nat} (h : G.bytes t = some b) : ∃ z n, G.inf t = some (z, n, b) := by
  unfold Ctx.bytes at h
  split at h
  · rename_i z n b' hi
    simp only [Option.some.injEq] at h; subst h; exact ⟨z, n, hi⟩
  · cases h

theorem makeSlice_good (hV : Shows V st) (tie : Ties G P) (h : Inv G Wr g st a.tmps w) {T : TypeId} {l c : Operand} {out : Out} {o : Oper} (ho : o.op = .makeSlice T l c) (hsz : a.tmps.size = nt) (hd : okDst nt o.dst = true)
    (hm : makeSliceOut G V T l c = some out) : Good G Wr P base g st a w o out := by
  unfold makeSliceOut at hm
  split at hm
  · rename_i n m e hl hc he
    split at hm
    · rename_i z k bytes hz hk hb
      obtain ⟨kl, el⟩ := idxOf_eval hV h hl
      obtain ⟨kc, ec⟩ := idxOf_eval hV h hc
      · have hcs := cond_some hm
        clear hm
        obtain ⟨hcond, hm⟩ := hcs
        simp only [Bool.and_eq_true, beq_dec, ble_dec, blt_dec, decide_eq_true_eq] at hcond
        obtain ⟨⟨⟨⟨rfl, c1⟩, c2⟩, c3⟩, c4⟩ := hcond
        cases hm
        obtain ⟨z', b', hi⟩ := Ctx.size_inf hk
        obtain ⟨z'', n'', hi'⟩ := Ctx.bytes_inf hb
        rw [hi] at hi'
        simp only [Option.some.injEq, Prod.mk.injEq] at hi'
        obtain ⟨rfl, rfl, rfl⟩ := hi'
        obtain ⟨zv, i, z1, z2, _, z4⟩ := zeroDV_run tie hz w
        obtain ⟨i', i1, i2, i3, i4⟩ := tie.inf _ _ _ _ hi
        rw [z1] at i1
        simp only [Option.some.injEq] at i1; subst i1
        have hbytes : (i.bytes : Int) * (n : Int) ≤ 281474976710656 := by
          rw [i4, ← Int.natCast_mul, Nat.mul_comm]; omega
        have hr := run_make (P := P) w T e i zv (tie.und _ _ (Ctx.elem_und he)) z1 z2 kl kc n n (by omega) (Int.le_refl _) hbytes (by omega)
        simp only [Int.toNat_natCast, i3] at hr
        obtain ⟨h1, h2⟩ := h.newRow (w' := w.alloc (.cells (madeCells zv.cells (n * k)) e)) (cur := madeCells zv.cells (n * k)) (ty := e) rfl (.slot (o.dst.getD 0)) (e := e) (size := k) (cap := n) (xs := List.replicate n z) hk c4 (by simp) (by simp [madeCells])
          (fun x hx => by rw [(List.mem_replicate.1 hx).2]; exact c3) (made_rel (z4 g.F) c3 c4 n).row
        simp only [List.length_replicate] at h2
        refine good_last (v := .slice (some ⟨w.heap.size, 0, none⟩) n n) (w1 := w.alloc (.cells (madeCells zv.cells (n * k)) e)) (by simp [execOp, ho, el, ec, hr]) (.inl rfl) hsz hd h1 (chg_row (.refl g) h.heap.big rfl rfl rfl rfl) (put_v _ _ _) ?_
        intro d hdst
        simp only [isView, Bool.false_eq_true, if_false]
        intro _
        have hgo : o.dst.getD 0 = d := by rw [hdst]; rfl
        rw [hgo] at h2 ⊢
        exact h2
    · cases hm
  · cases hm

/-! ## 'buildSlice' -/

theorem allSize_spec {k : Nat} : ∀ {l : List DV}, allSize k l = true → ∀ x ∈ l, x.cells.length = k
  | [], _ => by simp
  | v :: r, h => by
    unfold allSize at h
    cases hb : Nat.beq v.cells.length k with
    | false => rw [hb] at h; cases h
    | true =>
      rw [hb] at h
      rw [beq_dec] at hb
      intro x hx
      rcases List.mem_cons.1 hx with rfl | hx
      · simpa using hb
      · exact allSize_spec h x hx

theorem deeps_rel (hV : Shows V st) (h : Inv G Wr g st a.tmps w) : ∀ {xs : List Operand} {ds : List DV} {f F0 : List Org} (_ : deeps V xs = some (ds, f)) {g' : Gh} {st' : St} (_ : GStep Wr g g') (_ : Inv G Wr g' st' a.tmps w) (_ : Done F0 st st') (_ : ∀ o ∈ f, o ∈ F0),
    RepL g'.F ds (xs.map a.eval)
  | [], ds, f, F0, hx, g', st', hg, h', hf, hF => by
    simp only [deeps, Option.some.injEq, Prod.mk.injEq] at hx
    obtain ⟨rfl, rfl⟩ := hx
    simp [RepL]
  | x :: r, ds, f, F0, hx, g', st', hg, h', hf, hF => by
    simp only [deeps] at hx
    split at hx
    · rename_i d fa dr fb h1 h2
      simp only [Option.some.injEq, Prod.mk.injEq] at hx
      obtain ⟨rfl, rfl⟩ := hx
      simp only [RepL, List.map_cons]
      exact ⟨_, _, rfl, deep_rep hV h h' hg h1 hf (fun o ho => hF o (by simp [ho])), deeps_rel hV h h2 hg h' hf (fun o ho => hF o (by simp [ho]))⟩
    · cases hx

theorem deeps_unlocked : ∀ {xs : List Operand} {ds : List DV} {f : List Org} (_ : deeps V xs = some (ds, f)), ∀ o ∈ f, V.locked o = false
  | [], ds, f, hx => by
    simp only [deeps, Option.some.injEq, Prod.mk.injEq] at hx
    obtain ⟨rfl, rfl⟩ := hx
    simp
  | x :: r, ds, f, hx => by
    simp only [deeps] at hx
    split at hx
    · rename_i d fa dr fb h1 h2
      simp only [Option.some.injEq, Prod.mk.injEq] at hx
      obtain ⟨rfl, rfl⟩ := hx
      intro o ho
      rcases List.mem_append.1 ho with ho | ho
      · exact deep_unlocked h1 o ho
      · exact deeps_unlocked h2 o ho
    · cases hx

/-- Elements that are put into a row one behind the other. -/
theorem setAll_fill {F : Fz} {n : Nat} : ∀ (is : List Nat) (vs : List DV) (us : List Value) (l xs : List DV) (cells : Array Value), is.length = vs.length → RepL F vs us → setAll l (is.zip vs) = some xs →
    (∀ x ∈ l, x.cells.length = n) → (∀ x ∈ vs, x.cells.length = n) → RepL F (flat l) cells.toList →
    ∃ cells', Instr.fill (fun i => some (i * n, n)) cells (is.zip us) = some cells' ∧ RepL F (flat xs) cells'.toList ∧ (∀ x ∈ xs, x.cells.length = n) ∧ xs.length = l.length
  | [], vs, us, l, xs, cells, hl, hv, hs, h1, h2, h3 => by
    simp only [List.zip_nil_left, setAll, Option.some.injEq] at hs; subst hs
    exact ⟨cells, rfl, h3, h1, rfl⟩
  | i :: is, [], us, l, xs, cells, hl, hv, hs, h1, h2, h3 => by simp at hl
  | i :: is, d :: vs, us, l, xs, cells, hl, hv, hs, h1, h2, h3 => by
    simp only [RepL] at hv
    obtain ⟨u, us', rfl, hd, hv⟩ := hv
    simp only [List.zip_cons_cons, setAll] at hs
    cases hi : Nat.blt i l.length with
    | false => rw [hi] at hs; cases hs
    | true =>
      rw [hi] at hs
      rw [blt_dec] at hi
      have hi' : i < l.length := by simpa using hi
      simp only [cond_true] at hs
      have hdn := h2 d (by simp)
      have hcd := rep_cells hd
      have hlen := h3.length
      have hlu := hcd.length
      rw [flat_length h1] at hlen
      simp only [Array.length_toList] at hlen hlu
      have hle : i * n + n ≤ l.length * n := by rw [← Nat.succ_mul]; exact Nat.mul_le_mul_right _ hi'
      have hfold := foldl_set u.cells.toList cells (i * n) 0 (by simp only [Array.length_toList]; omega)
      have hrel : RepL F (flat (l.set i d)) ((u.cells.zipIdx.foldl (fun cs (x : Value × Nat) => cs.setIfInBounds (i * n + x.2) x.1) cells)).toList := by
        have : (u.cells.zipIdx.foldl (fun cs (x : Value × Nat) => cs.setIfInBounds (i * n + x.2) x.1) cells) = ((u.cells.toList.zipIdx 0).foldl (fun cs (x : Value × Nat) => cs.setIfInBounds (i * n + x.2) x.1) cells) := by
          rw [← Array.foldl_toList, Array.toList_zipIdx]
        rw [this, hfold, flat_set h1 i d hi']
        have e : i * n + 0 + u.cells.toList.length = i * n + n := by simp only [Array.length_toList]; omega
        rw [e, Nat.add_zero]
        exact h3.splice hcd (i * n) (i * n + n)
      obtain ⟨cells', k1, k2, k3, k4⟩ := setAll_fill is vs us' (l.set i d) xs _ (by simpa using hl) hv hs (fun x hx => by
        rcases List.mem_or_eq_of_mem_set hx with hx | rfl
        · exact h1 x hx
        · exact hdn) (fun x hx => h2 x (by simp [hx])) hrel
      refine ⟨cells', ?_, k2, k3, by simpa using k4⟩
      simp only [List.zip_cons_cons, Instr.fill]
      rw [if_neg]
      · exact k1
      · simp only [ne_eq, Bool.or_eq_true, decide_eq_true_eq, not_or, Decidable.not_not, Nat.not_lt]
        omega

theorem put_f (st : St) (dst : Option Nat) (v : AV) (f : List Org) : st.put dst { v := v, frz := f } = match dst with
    | some d => (f.foldl St.freeze1 st).setSlot d v
    | none => f.foldl St.freeze1 st := by
  unfold St.put; rfl

theorem buildSlice_good (hV : Shows V st) (tie : Ties G P) (h : Inv G Wr g st a.tmps w) {T : TypeId} {len : Nat} {ps : Array (Nat × Operand)} {out : Out} {o : Oper} (ho : o.op = .buildSlice T len ps) (hsz : a.tmps.size = nt) (hd : okDst nt o.dst = true)
    (hm : buildSliceOut G V T len ps.toList = some out) : Good G Wr P base g st a w o out := by
  unfold buildSliceOut at hm
  split at hm
  · rename_i e he
    split at hm
    · rename_i n z vs f hn hz hds
      · have hcs := cond_some hm
        clear hm
        obtain ⟨hcond, hm⟩ := hcs
        simp only [Bool.and_eq_true, ble_dec, blt_dec, decide_eq_true_eq] at hcond
        obtain ⟨⟨c1, c2⟩, c3⟩ := hcond
        have c4 := allSize_spec c3
        split at hm
        · rename_i xs hxs
          simp only [Option.some.injEq] at hm; subst hm
          obtain ⟨g1, h1, _, h3, h4⟩ := h.freezeAll f (fun p hp => by rw [hV.locked]; exact deeps_unlocked hds p hp)
          have hrel := deeps_rel hV h hds h1 h3 h4 (fun _ ho => ho)
          obtain ⟨zv, i, z1, z2, z3, z4⟩ := zeroDV_run tie hz w
          obtain ⟨i', i1, i2⟩ := tie.size hn
          rw [z1] at i1
          simp only [Option.some.injEq] at i1; subst i1
          have hmade := made_rel (z4 g1.F) (c4 z (by simp)) c2 len
          have hrl := hrel.length
          obtain ⟨cells, k1, k2, k3, k4⟩ := setAll_fill (n := n) (ps.toList.map (·.1)) vs ((ps.toList.map (·.2)).map a.eval) (List.replicate len z) xs (madeCells zv.cells (len * n)) (by simp at hrl ⊢; omega) hrel hxs
            (fun x hx => by rw [(List.mem_replicate.1 hx).2]; exact c4 z (by simp)) (fun x hx => c4 x (by simp [hx])) hmade
          have hzip : (ps.toList.map (·.1)).zip ((ps.toList.map (·.2)).map a.eval) = (ps.map fun (x : Nat × Operand) => (x.1, a.eval x.2)).toList := by
            rw [List.map_map, List.zip_map', Array.toList_map]; rfl
          rw [hzip] at k1
          have hlx : xs.length = len := by simpa using k4
          have hrun : (Instr.buildSlice T len (ps.map fun x => (x.1, a.eval x.2))).run P w = .ok (.slice (some ⟨w.heap.size, 0, none⟩) len len) (w.alloc (.cells cells e)) := by
            have hnot : ¬ (16777216 < len * n) := by omega
            by_cases h0 : len = 0
            · subst h0
              simp only [Nat.zero_mul] at k1
              have er : ∀ f : Nat → Value, (Array.range 0).map f = #[] := by intro f; apply Array.ext'; simp
              simp [Instr.buildSlice, run_underlying (tie.und _ _ (Ctx.elem_und he)), tie.run_size hn, madeCells, newRow, er] at k1 ⊢
              rw [k1]
              simp
            · have hne : ¬ (len * n = 0) := by
                intro h0'
                rcases Nat.mul_eq_zero.1 h0' with h1 | h1 <;> omega
              simp only [madeCells, Array.toList_map] at k1
              simp only [Instr.buildSlice, Sem.run_bind, run_underlying (tie.und _ _ (Ctx.elem_und he)), Result.andThen_ok, tie.run_size hn]
              simp [hnot, hne, z3, newRow, k1]
          obtain ⟨m1, m2⟩ := h3.newRow (w' := w.alloc (.cells cells e)) (cur := cells) (ty := e) rfl (.slot (o.dst.getD 0)) (e := e) (size := n) (cap := len) (xs := xs) hn c2 (by omega)
            (by have := k2.length; rw [flat_length k3, hlx] at this; simpa using this) k3 k2.row
          rw [hlx] at m2
          refine good_last (v := .slice (some ⟨w.heap.size, 0, none⟩) len len) (w1 := w.alloc (.cells cells e)) (by simp [execOp, ho, hrun]) (.inl rfl) hsz hd m1 (chg_row h1 h.heap.big rfl rfl rfl rfl) (put_f _ _ _ _) ?_
          intro d hdst
          simp only [isView, Bool.false_eq_true, if_false]
          intro _
          have hgo : o.dst.getD 0 = d := by rw [hdst]; rfl
          rw [hgo] at m2 ⊢
          exact m2
        · cases hm
    · cases hm
  · cases hm

end
end Go.Abs
end

section
namespace Go.Abs

section
variable {G : Ctx} {Wr : Nat → Prop} {P : Program}
variable {g : Gh} {V : Vw} {st : St} {a : Act} {w : World} {base nt : Nat}

/-- A box's contents change. -/
theorem Inv.reEnt {g : Gh} {st st' : St} {tmps : Array Value} {w w' : World} (h : Inv G Wr g st tmps w) {id : Nat} {e e' : Ent} (he : st.ent id = some e) (hsl : st'.sl = st.sl) (hlk : st'.lk = st.lk)
    (hent : ∀ j, st'.ent j = if id = j then some e' else st.ent j) (hbk : isBoxE (some e') = isBoxE (some e)) (hmk : isMapE (some e') = isMapE (some e))
    (hblk : ∀ b, b ≠ g.θ id → w'.heap[b]? = w.heap[b]?) (hsz : w'.heap.size = w.heap.size)
    (hb : ∀ cs', e' = .box cs' → ∃ cur' ty, w'.heap[g.θ id]? = some (.cells cur' ty (0, 0)) ∧ cur'.size = cs'.length)
    (hm : ∀ kv', e' = .map kv' → ∃ es clock, w'.heap[g.θ id]? = some (.map es clock) ∧ es.toList.map (·.key) = kv'.map (fun x => Value.string x.1))
    (hc : ∀ c A, cellOf (some e') c = A → A ≠ .junk → (cellOf (some e) c = A ∧ cellVal w' (g.θ id) c = cellVal w (g.θ id) c) ∨ (∃ u, cellVal w' (g.θ id) c = some u ∧ PRel G Wr g st.ent st.lk w (.cell id c) A u))
    (hv : ∀ n c, (st.slot n).views (.cell id c) = true → cellOf (some e') c = cellOf (some e) c ∧ cellVal w' (g.θ id) c = cellVal w (g.θ id) c) : Inv G Wr g st' tmps w' := by
  have hbase := h.heap.toBase
  have hslot : ∀ n, st'.slot n = st.slot n := fun n => by simp only [St.slot, hsl]
  have hne : st.ent id ≠ none := by rw [he]; simp
  have hnone : ∀ j, st'.ent j ≠ none ↔ st.ent j ≠ none := by
    intro j
    rw [hent]
    by_cases hij : id = j
    · subst hij; simp [he]
    · simp [hij]
  have hkept : Kept g.θ st.ent g.θ st'.ent := by
    constructor <;> intro i hi <;> rw [hent] <;> by_cases hij : id = i
    · subst hij; rw [he] at hi; rw [if_pos rfl, hbk]; exact ⟨hi, rfl⟩
    · rw [if_neg hij]; exact ⟨hi, rfl⟩
    · subst hij; rw [he] at hi; rw [if_pos rfl, hmk]; exact ⟨hi, rfl⟩
    · rw [if_neg hij]; exact ⟨hi, rfl⟩
  have hother : ∀ i, st.ent i ≠ none → i ≠ id → w'.heap[g.θ i]? = w.heap[g.θ i]? := fun i hi hii => hblk _ fun hq => hii (hbase.inj i id hi hne hq)
  have hpr : ∀ p A u, PRel G Wr g st.ent st.lk w p A u → PRel G Wr g st'.ent st'.lk w' p A u := by
    intro p A u hp
    rw [hlk]
    refine PRel.mono hp (.refl _) hkept ?_
    intro e2 xs _ b h3 h4 h5 h6
    exact ⟨hblk b fun hq => h5 id hne hq.symm, h3, h4, fun i hi => h5 i ((hnone i).1 hi)⟩
  refine Inv.intro ?_ ?_ ?_ ?_
  · refine { ok := ?_, box := ?_, map := ?_, inj := ?_, free := ?_, wr := ?_, big := ?_ }
    · refine ⟨fun b i v hv => ?_, fun b es hv => ?_⟩
      · have hbne : b ≠ g.θ id := by rintro rfl; rw [(hbase.free id hne).cell i] at hv; cases hv
        exact (World.cell?_of_block (a := ⟨b, i, none⟩) (hblk b hbne)).trans (hbase.ok.cell b i v hv)
      · have hbne : b ≠ g.θ id := by rintro rfl; rw [(hbase.free id hne).map] at hv; cases hv
        obtain ⟨clock, h1⟩ := hbase.ok.map b es hv
        exact ⟨clock, (hblk b hbne).trans h1⟩
    · intro i cs hi
      rw [hent] at hi
      by_cases hij : id = i
      · subst hij
        rw [if_pos rfl] at hi
        exact hb cs (Option.some.inj hi)
      · rw [if_neg hij] at hi
        obtain ⟨cur, ty, k1, k2⟩ := hbase.box i cs hi
        exact ⟨cur, ty, (hother i (by rw [hi]; simp) (Ne.symm hij)).trans k1, k2⟩
    · intro i kv hi
      rw [hent] at hi
      by_cases hij : id = i
      · subst hij
        rw [if_pos rfl] at hi
        exact hm kv (Option.some.inj hi)
      · rw [if_neg hij] at hi
        obtain ⟨es, clock, k1, k2⟩ := hbase.map i kv hi
        exact ⟨es, clock, (hother i (by rw [hi]; simp) (Ne.symm hij)).trans k1, k2⟩
    · intro i j hi hj hij
      exact hbase.inj i j ((hnone i).1 hi) ((hnone j).1 hj) hij
    · intro i hi
      exact hbase.free i ((hnone i).1 hi)
    · intro i hi hl
      rw [hlk] at hl
      exact hbase.wr i ((hnone i).1 hi) hl
    · intro b hbs
      rw [hsz] at hbs
      exact hbase.big b hbs
  · intro o A hA hj hvw
    cases o with
    | slot n =>
      rw [at_slot, hslot] at hA
      obtain ⟨u, k1, k2⟩ := h.place (.slot n) A hA hj hvw
      exact ⟨u, k1, hpr _ _ _ k2⟩
    | cell i c =>
      rw [at_cell, hent] at hA
      by_cases hij : id = i
      · subst hij
        rw [if_pos rfl] at hA
        rcases hc c A hA hj with ⟨k1, k2⟩ | ⟨u, k1, k2⟩
        · obtain ⟨u, m1, m2⟩ := h.place (.cell id c) A (by rw [at_cell, he]; exact k1) hj hvw
          exact ⟨u, k2.trans m1, hpr _ _ _ m2⟩
        · exact ⟨u, k1, hpr _ _ _ k2⟩
      · rw [if_neg hij] at hA
        obtain ⟨u, k1, k2⟩ := h.place (.cell i c) A hA hj hvw
        have hi : st.ent i ≠ none := ent_of_at (c := c) (by rw [at_cell, hA]; exact hj)
        refine ⟨u, ?_, hpr _ _ _ k2⟩
        simp only [pval, cellVal, hother i hi (Ne.symm hij)]
        exact k1
  · intro i c
    rw [hent]
    by_cases hij : id = i
    · subst hij
      rw [if_pos rfl]
      by_cases hj : cellOf (some e') c = .junk
      · rw [hj]; rfl
      · rcases hc c _ rfl hj with ⟨k1, _⟩ | ⟨u, _, k2⟩
        · rw [← k1, ← he]; exact h.heap.noview id c
        · exact k2.notView
    · rw [if_neg hij]; exact h.heap.noview i c
  · intro n A hA hvw
    rw [hslot] at hA
    obtain ⟨v, k1, k2⟩ := h.view n A hA hvw
    refine ⟨v, k1, viewRel_of k2 fun o ho => ?_⟩
    cases o with
    | slot m => exact ⟨fun ys hy => by rw [at_slot, hslot]; exact hy, rfl⟩
    | cell i c =>
      by_cases hij : id = i
      · subst hij
        obtain ⟨m1, m2⟩ := hv n c (by rw [hA]; exact ho)
        refine ⟨fun ys hy => ?_, m2⟩
        rw [at_cell, hent, if_pos rfl, m1, ← he]
        exact hy
      · refine ⟨fun ys hy => by rw [at_cell, hent, if_neg hij]; exact hy, ?_⟩
        have hi : st.ent i ≠ none := ent_of_at (shown_junk (viewRel_shown k2 ho))
        simp only [pval, cellVal, hother i hi (Ne.symm hij)]

/-! ## Cells that are put one behind the other -/

def setCells : Nat → List AV → Ent → Ent
  | _, [], e => e
  | c, v :: r, e => setCells (c + 1) r (setCell c v e)

theorem setCells_box : ∀ (vs : List AV) (off : Nat) (cs : List AV), off + vs.length ≤ cs.length → setCells off vs (.box cs) = .box (cs.take off ++ vs ++ cs.drop (off + vs.length))
  | [], off, cs, h => by simp [setCells]
  | v :: r, off, cs, h => by
    simp only [List.length_cons] at h
    simp only [setCells, setCell]
    rw [setCells_box r (off + 1) (cs.set off v) (by simp; omega)]
    congr 1
    apply List.ext_getElem?
    intro j
    simp only [List.append_assoc, List.getElem?_append, List.length_take, List.length_set, List.length_cons]
    have e1 : min (off + 1) cs.length = off + 1 := by omega
    have e2 : min off cs.length = off := by omega
    rw [e1, e2]
    by_cases h1 : j < off
    · have : j < off + 1 := by omega
      simp only [this, h1, if_true]
      rw [List.getElem?_take, List.getElem?_take, if_pos this, if_pos h1, List.getElem?_set_ne (by omega)]
    · by_cases h2 : j = off
      · subst h2
        simp only [Nat.lt_succ_self, if_true, Nat.lt_irrefl, if_false, Nat.sub_self]
        rw [List.getElem?_take, if_pos (by omega), List.getElem?_set_self (by omega)]
        simp
      · have h3 : ¬ j < off + 1 := by omega
        simp only [h1, h3, if_false]
        have e3 : j - off = (j - (off + 1)) + 1 := by omega
        rw [e3, List.getElem?_cons_succ]
        by_cases h4 : j - (off + 1) < r.length
        · simp [h4]
        · have h5 : ¬ j - (off + 1) + 1 < r.length + 1 := by omega
          simp only [h4, h5, if_false, List.getElem?_drop]
          rw [List.getElem?_set_ne (by omega)]
          congr 1; omega

theorem puts_fold (id : Nat) : ∀ (vs : List AV) (off : Nat) (st : St) (e : Ent), st.ent id = some e →
    let st' := (cellPuts id off vs).foldl (fun st (x : Org × AV) => st.setPlace x.2 x.1) st
    st'.sl = st.sl ∧ st'.lk = st.lk ∧ ∀ j, st'.ent j = if id = j then some (setCells off vs e) else st.ent j
  | [], off, st, e, he => by
    refine ⟨rfl, rfl, fun j => ?_⟩
    by_cases hij : id = j
    · subst hij; simp [cellPuts, setCells, he]
    · simp [hij, cellPuts]
  | v :: r, off, st, e, he => by
    simp only [cellPuts, List.foldl_cons]
    have hsl : (st.setPlace v (.cell id off)).sl = st.sl := by
      show (st.setEnt id (setCell off v)).sl = st.sl
      simp only [St.setEnt]; split <;> rfl
    have hent : ∀ j, (st.setPlace v (.cell id off)).ent j = if id = j then some (setCell off v e) else st.ent j := by
      intro j
      rw [ent_setPlace]
      simp only
      by_cases hij : id = j
      · subst hij; simp [he]
      · simp [hij]
    obtain ⟨k1, k2, k3⟩ := puts_fold id r (off + 1) (st.setPlace v (.cell id off)) (setCell off v e) (by rw [hent, if_pos rfl])
    refine ⟨k1.trans hsl, k2.trans (lk_setPlace _ _ _), fun j => ?_⟩
    rw [k3]
    by_cases hij : id = j
    · simp [hij, setCells]
    · simp only [hij, if_false]; rw [hent, if_neg hij]

theorem cellKills_mem (id : Nat) : ∀ (part : List AV) (off j : Nat) (A : AV), part[j]? = some A → A.shown = true → .cell id (off + j) ∈ cellKills id off part
  | [], off, j, A, h, _ => by simp at h
  | B :: r, off, j, A, h, hs => by
    cases j with
    | zero => simp at h; subst h; simp [cellKills, hs]
    | succ j =>
      have := cellKills_mem id r (off + 1) j A (by simpa using h) hs
      rw [show off + 1 + j = off + (j + 1) by omega] at this
      unfold cellKills
      cases B.shown <;> simp [this]

/-- Views that are no more. -/
theorem kills {tmps : Array Value} : ∀ (l : List Org) {st : St} (_ : Inv G Wr g st tmps w),
    Inv G Wr g (l.foldl St.kill1 st) tmps w ∧ (l.foldl St.kill1 st).tb = st.tb ∧ (l.foldl St.kill1 st).lk = st.lk ∧ (∀ n, (l.foldl St.kill1 st).slot n = st.slot n ∨ (l.foldl St.kill1 st).slot n = .junk) ∧
      ∀ o ∈ l, ∀ n, ((l.foldl St.kill1 st).slot n).views o = false
  | [], st, h => ⟨h, rfl, rfl, fun n => .inl rfl, by simp⟩
  | o :: l, st, h => by
    have h1 := h.kill (AV.views o) (fun A hA => views_isView hA)
    obtain ⟨k1, k2, k3, k4, k5⟩ := kills l (st := st.kill1 o) h1
    have hsl : ∀ n, (st.kill1 o).slot n = if (st.slot n).views o then .junk else st.slot n := fun n => slot_kill st (AV.views o) n
    refine ⟨k1, k2, k3, fun n => ?_, fun o' ho' n => ?_⟩
    · rcases k4 n with h2 | h2
      · simp only [List.foldl_cons]
        rw [h2, hsl]
        split
        · exact .inr rfl
        · exact .inl rfl
      · exact .inr h2
    · rcases List.mem_cons.1 ho' with rfl | ho'
      · simp only [List.foldl_cons]
        rcases k4 n with h2 | h2
        · rw [h2, hsl]
          split
          · rfl
          · rename_i hk; simpa using hk
        · rw [h2]; rfl
      · exact k5 o' ho' n

theorem ent_of_tb {st st' : St} (h : st'.tb = st.tb) (j : Nat) : st'.ent j = st.ent j := by simp only [St.ent, h]

/-! ## 'store' into a box -/

theorem vrel_atom {F : Fz} {θ T} {A : AV} {v : Value} (h : VRel F θ T A v) (ha : A.atom = true) : v.oneCell' = true := by
  cases A with
  | dv d =>
    cases d with
    | agg cs => cases ha
    | bool x => simp only [VRel, Rep] at h; subst h; rfl
    | int k n => simp only [VRel, Rep] at h; subst h; rfl
    | str s => simp only [VRel, Rep] at h; subst h; rfl
    | nilp => simp only [VRel, Rep] at h; subst h; rfl
    | ptr cs o => simp only [VRel, Rep] at h; obtain ⟨b, o', rfl, _⟩ := h; rfl
    | lst xs => simp only [VRel, Rep] at h; obtain ⟨b, o', rfl, _⟩ := h; rfl
    | nilm => simp only [VRel, Rep] at h; subst h; rfl
    | map kv => simp only [VRel, Rep] at h; obtain ⟨b, o', rfl, _⟩ := h; rfl
    | fn f cs => simp only [VRel, Rep] at h; obtain ⟨b, rfl, _⟩ := h; rfl
    | nilf => simp only [VRel, Rep] at h; subst h; rfl
    | ifc t d => simp only [VRel, Rep] at h; obtain ⟨b, rfl, _⟩ := h; rfl
    | nili => simp only [VRel, Rep] at h; subst h; rfl
  | ptr id off => simp only [VRel] at h; rw [h.1]; rfl
  | map id => simp only [VRel] at h; rw [h.1]; rfl
  | nils e => simp only [VRel] at h; subst h; rfl
  | agg cs => cases ha
  | ifc t x => simp only [VRel] at h; obtain ⟨u, rfl, _⟩ := h; rfl
  | fn f cs => simp only [VRel] at h; obtain ⟨u, rfl, _⟩ := h; rfl
  | tup vs => cases ha
  | own e xs => simp [VRel] at h
  | vw o k => simp [VRel] at h
  | vp o j off => simp [VRel] at h
  | undf => cases ha
  | junk => cases ha

theorem prel_atom {T lk p A u} (h : PRel G Wr g T lk w p A u) (ha : A.atom = true) : u.oneCell' = true := by
  cases A with
  | own e xs =>
    obtain ⟨q, cap, rfl⟩ := OwnRel.header (by simpa only [PRel] using h)
    rfl
  | _ => exact vrel_atom (F := g.F) (θ := g.θ) (T := T) h ha

theorem atomsA_spec : ∀ {l : List AV}, atomsA l = true → ∀ A ∈ l, A.atom = true
  | [], _ => by simp
  | v :: r, h => by
    unfold atomsA at h
    cases hv : v.atom with
    | false => rw [hv] at h; cases h
    | true =>
      rw [hv] at h
      intro A hA
      rcases List.mem_cons.1 hA with rfl | hA
      · exact hv
      · exact atomsA_spec h A hA

theorem put_store (st : St) (dst : Option Nat) (v : AV) (f t k : List Org) (ps : List (Org × AV)) : st.put dst { v := v, frz := f, take := t, kill := k, puts := ps } =
    let st3 := ps.foldl (fun st (x : Org × AV) => st.setPlace x.2 x.1) (k.foldl St.kill1 (t.foldl St.take1 (f.foldl St.freeze1 st)))
    match dst with
    | some d => st3.setSlot d v
    | none => st3 := by
  unfold St.put; rfl

theorem run_storeAt {P : Program} (tie : Ties G P) {T : TypeId} {n : Nat} (hn : G.size T = some n) {w : World} {b off : Nat} {cur : Array Value} {ty : TypeId} (hw : w.heap[b]? = some (.cells cur ty (0, 0))) {v : Value} (hl : v.cells.size = n) (hle : off + n ≤ cur.size)
    (h1 : ∀ u ∈ v.cells.toList, u.oneCell' = true) : (Instr.storeAt T (.pointer (some ⟨b, off, none⟩)) v).run P w = .ok () (w.setRow b (cur.toList.take off ++ v.cells.toList ++ cur.toList.drop (off + n)).toArray) := by
  have := run_storeCells_at P b off ty v.cells.toList 0 cur w hw (by simp; omega) h1
  simp only [Nat.add_zero, Array.length_toList, hl] at this
  simp [Instr.storeAt, Instr.sureAddr, storeVar, tie.run_size hn, hl, this]

theorem splice_get {α : Type} {l vs : List α} {off : Nat} (h : off + vs.length ≤ l.length) (c : Nat) : (l.take off ++ vs ++ l.drop (off + vs.length))[c]? = if off ≤ c ∧ c < off + vs.length then vs[c - off]? else l[c]? := by
  simp only [List.append_assoc, List.getElem?_append, List.length_take]
  have e2 : min off l.length = off := by omega
  rw [e2]
  by_cases h1 : c < off
  · rw [if_pos h1, List.getElem?_take, if_pos h1, if_neg (by omega)]
  · rw [if_neg h1]
    by_cases h2 : c - off < vs.length
    · rw [if_pos h2, if_pos (by omega)]
    · rw [if_neg h2, if_neg (by omega), List.getElem?_drop]
      congr 1; omega

/-- Cells of a box are written. -/
theorem store_box {tie : Ties G P} (h : Inv G Wr g st a.tmps w) {T : TypeId} {n id off : Nat} (hn : G.size T = some n) {g1 : Gh} {f t : List Org} (hg : GStep Wr g g1) (h1 : Inv G Wr g1 (t.foldl St.take1 (f.foldl St.freeze1 st)) a.tmps w)
    (htb : Tb st (t.foldl St.take1 (f.foldl St.freeze1 st))) {cs part vs : List AV} (he : st.ent id = some (.box cs)) (hlk : has id st.lk = false) (hcut : cut cs off n = some part) (hvl : vs.length = n) (v : Value) (hcl : v.cells.toList.length = n)
    (hat : ∀ A ∈ vs, A.atom = true)
    (hrel : ∀ (j : Nat) A, vs[j]? = some A → ∃ u, v.cells.toList[j]? = some u ∧ PRel G Wr g1 (t.foldl St.take1 (f.foldl St.freeze1 st)).ent (t.foldl St.take1 (f.foldl St.freeze1 st)).lk w (.cell id (off + j)) A u)
    {o : Oper} (hexec : execOp a.eval o = (do Instr.storeAt T (.pointer (some ⟨g.θ id, off, none⟩)) v; pure .skip)) (hsz : a.tmps.size = nt) (hd : okDst nt o.dst = true) :
    Good G Wr P base g st a w o { v := .undf, frz := f, take := t, kill := cellKills id off part, puts := cellPuts id off vs } := by
  generalize hst1 : t.foldl St.take1 (f.foldl St.freeze1 st) = st1 at h1 htb hrel
  have hθ := hg.θ
  obtain ⟨cur, ty, hw, hcs⟩ := h.heap.box id cs he
  obtain ⟨hpl, hple, hpget⟩ := cut_get hcut
  obtain ⟨k1, k2, k3, k4, k5⟩ := kills (cellKills id off part) h1
  generalize hst2 : (cellKills id off part).foldl St.kill1 st1 = st2 at k1 k2 k3 k4 k5
  have hbox1 : isBoxE (st1.ent id) = true := ((htb.kept g.θ).box id (by rw [he]; rfl)).1
  obtain ⟨cs1, he1⟩ : ∃ cs1, st1.ent id = some (.box cs1) := by
    cases hq : st1.ent id with
    | none => rw [hq] at hbox1; cases hbox1
    | some e => cases e with
      | box cs1 => exact ⟨cs1, rfl⟩
      | map kv => rw [hq] at hbox1; cases hbox1
  have hcs1 : cs1.length = cs.length := by
    obtain ⟨cur1, ty1, m1, m2⟩ := h1.heap.box id cs1 he1
    rw [hθ, hw] at m1
    simp only [Option.some.injEq, Obj.cells.injEq] at m1
    rw [← m2, ← m1.1, hcs]
  have he2 : st2.ent id = some (.box cs1) := by rw [ent_of_tb k2]; exact he1
  obtain ⟨p1, p2, p3⟩ := puts_fold id vs off st2 (.box cs1) he2
  rw [setCells_box vs off cs1 (by omega)] at p3
  have hone : ∀ u ∈ v.cells.toList, u.oneCell' = true := by
    intro u hu
    obtain ⟨j, hj, hju⟩ := List.mem_iff_getElem.1 hu
    have hjn : j < vs.length := by omega
    obtain ⟨u', m1, m2⟩ := hrel j vs[j] (List.getElem?_eq_getElem hjn)
    rw [List.getElem?_eq_getElem hj, hju] at m1
    simp only [Option.some.injEq] at m1; subst m1
    exact prel_atom m2 (hat _ (List.getElem_mem hjn))
  have hrun := run_storeAt tie hn (b := g.θ id) (off := off) hw (v := v) (by simpa using hcl) (by omega) hone
  generalize hw' : w.setRow (g.θ id) (cur.toList.take off ++ v.cells.toList ++ cur.toList.drop (off + n)).toArray = w' at hrun
  have hheap : w'.heap[g.θ id]? = some (.cells (cur.toList.take off ++ v.cells.toList ++ cur.toList.drop (off + n)).toArray ty (0, 0)) := by rw [← hw']; exact setRow_heap w _ cur _ ty _ hw
  have hcv : ∀ c, cellVal w' (g.θ id) c = if off ≤ c ∧ c < off + n then v.cells.toList[c - off]? else cellVal w (g.θ id) c := by
    intro c
    simp only [cellVal, hheap, hw]
    have := splice_get (l := cur.toList) (vs := v.cells.toList) (off := off) (by simp only [Array.length_toList] at hcl ⊢; omega) c
    rw [hcl] at this
    simpa using this
  have hce : ∀ c, cellOf (some (.box (cs1.take off ++ vs ++ cs1.drop (off + vs.length)))) c = if off ≤ c ∧ c < off + n then cellOf (some (.box vs)) (c - off) else cellOf (some (.box cs1)) c := by
    intro c
    have := splice_get (l := cs1) (vs := vs) (off := off) (by omega) c
    simp only [cellOf]
    rw [this, hvl]
    by_cases hr : off ≤ c ∧ c < off + n
    · rw [if_pos hr, if_pos hr]
    · rw [if_neg hr, if_neg hr]
  have hprel : ∀ p A u, PRel G Wr g1 st1.ent st1.lk w p A u → PRel G Wr g1 st2.ent st2.lk w p A u := by
    intro p A u hp
    rw [k3]
    have : st2.ent = st1.ent := funext fun j => ent_of_tb k2 j
    rw [this]; exact hp
  have hinv := k1.reEnt (w' := w') (e' := .box (cs1.take off ++ vs ++ cs1.drop (off + vs.length))) he2 p1 p2 p3 rfl rfl ?_ ?_ ?_ ?_ ?_ ?_
  · have hchg : Chg Wr base g w g1 w' := by
      refine ⟨hg.le, hg.new, hg.ow, fun i _ => by rw [hθ], fun b hb => ?_, ?_, ?_, ?_, ?_⟩
      · rw [← hw']
        refine setRow_other w _ b _ ?_
        rintro rfl
        exact hb (h.heap.wr id (by rw [he]; simp) hlk)
      · rw [← hw']; simp [World.setRow]
      · rw [← hw']; rfl
      · rw [← hw']; rfl
      · rw [← hw']; rfl
    refine good_last (v := undef) (res := .skip) (by rw [hexec]; simp [hrun]) (.inr ⟨rfl, rfl⟩) hsz hd hinv hchg (by rw [put_store, hst1, hst2]; rfl) ?_
    intro d _
    simp only [isView, Bool.false_eq_true, if_false]
    intro _
    simp only [PRel, VRel]
  · intro b hb
    rw [← hw']
    exact setRow_other w _ b _ (by rw [← hθ]; exact hb)
  · rw [← hw']; simp [World.setRow]
  · intro cs' hcs'
    simp only [Ent.box.injEq] at hcs'
    subst hcs'
    refine ⟨_, ty, by rw [hθ]; exact hheap, ?_⟩
    simp only [Array.length_toList] at hcl
    simp [hcl, hvl]
    omega
  · intro kv' hkv; cases hkv
  · intro c A hA hj
    rw [hce] at hA
    rw [hθ, hcv]
    by_cases hr : off ≤ c ∧ c < off + n
    · rw [if_pos hr] at hA ⊢
      right
      have hA' : vs[c - off]? = some A := by
        simp only [cellOf] at hA
        split at hA
        · rename_i x hx; rw [hx, hA]
        · exact absurd hA.symm hj
      obtain ⟨u, m1, m2⟩ := hrel (c - off) A hA'
      rw [show off + (c - off) = c by omega] at m2
      exact ⟨u, m1, hprel _ _ _ m2⟩
    · rw [if_neg hr] at hA ⊢
      exact .inl ⟨hA, rfl⟩
  · intro m c hvw
    rw [hce, hθ, hcv]
    by_cases hr : off ≤ c ∧ c < off + n
    · exfalso
      -- what is shown there is not shown any more
      obtain ⟨u, q1, q2⟩ := k1.view m (st2.slot m) rfl (views_isView hvw)
      have hs2 := viewRel_shown q2 hvw
      have hs1 : (st1.all.at_ (.cell id c)).shown = true := by rw [at_cell] at hs2 ⊢; rw [← ent_of_tb k2]; exact hs2
      have hs := htb.cell id c hs1
      rw [at_cell, he] at hs
      have hcp : ∃ B, part[c - off]? = some B := by
        have : c - off < part.length := by omega
        exact ⟨_, List.getElem?_eq_getElem this⟩
      obtain ⟨B, hB⟩ := hcp
      have hB' := hpget (c - off) B hB
      rw [show off + (c - off) = c by omega] at hB'
      simp only [cellOf, hB'] at hs
      have := cellKills_mem id part off (c - off) B hB hs
      rw [show off + (c - off) = c by omega] at this
      rw [k5 _ this m] at hvw
      cases hvw
    · rw [if_neg hr, if_neg hr]
      exact ⟨rfl, rfl⟩

end
end Go.Abs
end

section
namespace Go.Abs

section
variable {G : Ctx} {Wr : Nat → Prop} {P : Program}
variable {g : Gh} {V : Vw} {st : St} {a : Act} {w : World} {base nt : Nat}

/-- One's own list, changed where it stands. -/
theorem Inv.setOwn {g : Gh} {st : St} {tmps : Array Value} {w w' : World} (h : Inv G Wr g st tmps w) {p : Org} {e : TypeId} {xs xs' : List DV} (hp : st.all.at_ p = .own e xs) {b : Nat} {u : Value} (hu : pval g.θ tmps w p = some u)
    (how : g.ow b = some p) (hfree : g.F.free b) (hne : ∀ id, st.ent id ≠ none → g.θ id ≠ b) (hother : ∀ b', b' ≠ b → w'.heap[b']? = w.heap[b']?) (hsz : w'.heap.size = w.heap.size)
    (hnew : OwnRel G Wr g st.ent st.lk w' p e xs' u) (hlen : xs'.length = xs.length) (hall : ∀ s, (∀ y ∈ xs, y.cells.length = s) → ∀ y ∈ xs', y.cells.length = s) : Inv G Wr g (st.setPlace (.own e xs') p) tmps w' := by
  have hb := h.heap.toBase
  have hjp : st.all.at_ p ≠ .junk := by rw [hp]; simp
  have hat := fun o => at_setPlace st (.own e xs') p o hjp
  have hbl : ∀ i, st.ent i ≠ none → w'.heap[g.θ i]? = w.heap[g.θ i]? := fun i hi => hother _ (hne i hi)
  have hpv : ∀ o, st.all.at_ o ≠ .junk → pval g.θ tmps w' o = pval g.θ tmps w o := by
    intro o ho
    cases o with
    | slot n => rfl
    | cell id c => simp only [pval, cellVal, hbl id (ent_of_at ho)]
  have hbase' : Base Wr g st.ent st.lk w' := by
    refine { ok := ?_, box := ?_, map := ?_, inj := hb.inj, free := hb.free, wr := hb.wr, big := ?_ }
    · refine ⟨fun b' i v hv => ?_, fun b' es hv => ?_⟩
      · have hbne : b' ≠ b := by rintro rfl; rw [hfree.cell i] at hv; cases hv
        exact (World.cell?_of_block (a := ⟨b', i, none⟩) (hother b' hbne)).trans (hb.ok.cell b' i v hv)
      · have hbne : b' ≠ b := by rintro rfl; rw [hfree.map] at hv; cases hv
        obtain ⟨clock, h1⟩ := hb.ok.map b' es hv
        exact ⟨clock, (hother b' hbne).trans h1⟩
    · intro id cs he
      obtain ⟨cur, ty, k1, k2⟩ := hb.box id cs he
      exact ⟨cur, ty, (hbl id (by rw [he]; simp)).trans k1, k2⟩
    · intro id kv he
      obtain ⟨es, clock, k1, k2⟩ := hb.map id kv he
      exact ⟨es, clock, (hbl id (by rw [he]; simp)).trans k1, k2⟩
    · intro b' hbs
      rw [hsz] at hbs
      exact hb.big b' hbs
  have hk := kept_setPlace g.θ st (.own e xs') p
  refine Inv.intro (hbase'.setPlace (g' := g) _ p hbase'.ok rfl hb.free) ?_ ?_ ?_
  · intro o A hA hj hv
    rw [hat o] at hA
    rw [lk_setPlace]
    by_cases ho : o = p
    · subst ho
      rw [if_pos rfl] at hA
      subst hA
      refine ⟨u, (hpv o hjp).trans hu, ?_⟩
      refine PRel.mono (w := w') hnew.prel (.refl _) hk ?_
      intro _ _ _ b' h3 h4 h5 _
      exact ⟨rfl, h3, h4, fun id hid => h5 id ((ent_setPlace_none st _ o id).1 hid)⟩
    · rw [if_neg ho] at hA
      obtain ⟨u', k1, k2⟩ := h.place o A hA hj hv
      refine ⟨u', (hpv o (by rw [hA]; exact hj)).trans k1, ?_⟩
      refine PRel.mono k2 (.refl _) hk ?_
      intro _ _ _ b' h3 h4 h5 _
      refine ⟨hother b' ?_, h3, h4, fun id hid => h5 id ((ent_setPlace_none st _ p id).1 hid)⟩
      rintro rfl
      rw [how] at h3
      exact ho (Option.some.inj h3).symm
  · intro id c
    have := hat (.cell id c)
    rw [at_cell] at this
    rw [this]
    split
    · rfl
    · exact h.heap.noview id c
  · intro n A hA hv
    have k1 := hat (.slot n)
    rw [at_slot, hA] at k1
    have hno : Org.slot n ≠ p := by
      intro hn
      rw [if_pos hn] at k1; subst k1; cases hv
    rw [if_neg hno, at_slot] at k1
    obtain ⟨v, k2, k3⟩ := h.view n A k1.symm hv
    refine ⟨v, k2, ?_⟩
    have hshown := fun o ho => shown_junk (viewRel_shown (o := o) k3 ho)
    cases A with
    | vw o k =>
      have hpo := hpv o (hshown o (by simp [AV.views, Org.eq_iff]))
      simp only [ViewRel] at k3 ⊢
      obtain ⟨ys, q, cap, m1, m2, m3, m4⟩ := k3
      rw [hpo, hat o]
      by_cases ho : o = p
      · subst ho
        rw [if_pos rfl]
        have : ys = xs := by
          rcases m1 with ⟨e', m1⟩ | m1
          · rw [hp] at m1; simp only [AV.own.injEq] at m1; exact m1.2.symm
          · rw [hp] at m1; cases m1
        subst this
        exact ⟨xs', q, cap, .inl ⟨e, rfl⟩, by rw [hlen]; exact m2, m3, by rw [hlen]; exact m4⟩
      · rw [if_neg ho]; exact ⟨ys, q, cap, m1, m2, m3, m4⟩
    | vp o j off =>
      have hpo := hpv o (hshown o (by simp [AV.views, Org.eq_iff]))
      simp only [ViewRel] at k3 ⊢
      obtain ⟨ys, q, o2, cap, size, x, m1, m2, m3, m4, m5⟩ := k3
      rw [hpo, hat o]
      by_cases ho : o = p
      · subst ho
        rw [if_pos rfl]
        have : ys = xs := by
          rcases m1 with ⟨e', m1⟩ | m1
          · rw [hp] at m1; simp only [AV.own.injEq] at m1; exact m1.2.symm
          · rw [hp] at m1; cases m1
        subst this
        have hj : j < xs'.length := by rw [hlen]; exact (List.getElem?_eq_some_iff.1 m3).1
        exact ⟨xs', q, o2, cap, size, xs'[j], .inl ⟨e, rfl⟩, by rw [hlen]; exact m2, List.getElem?_eq_getElem hj, hall size m4, m5⟩
      · rw [if_neg ho]; exact ⟨ys, q, o2, cap, size, x, m1, m2, m3, m4, m5⟩
    | _ => cases hv

theorem atomsD_spec : ∀ {l : List DV}, atomsD l = true → ∀ A ∈ l, A.atom = true
  | [], _ => by simp
  | v :: r, h => by
    unfold atomsD at h
    cases hv : v.atom with
    | false => rw [hv] at h; cases h
    | true =>
      rw [hv] at h
      intro A hA
      rcases List.mem_cons.1 hA with rfl | hA
      · exact hv
      · exact atomsD_spec h A hA

theorem rep_atom {F : Fz} {d : DV} {v : Value} (h : Rep F d v) (ha : d.atom = true) : v.oneCell' = true :=
  vrel_atom (F := F) (θ := id) (T := fun _ => none) (A := .dv d) (by simpa only [VRel] using h) (by cases d <;> first | rfl | exact ha)

theorem repL_atoms {F : Fz} {cs : List DV} {us : List Value} (h : RepL F cs us) (ha : atomsD cs = true) : ∀ u ∈ us, u.oneCell' = true := by
  rw [RepL_iff] at h
  intro u hu
  obtain ⟨j, hj, hju⟩ := List.mem_iff_getElem.1 hu
  have hjn : j < cs.length := by omega
  obtain ⟨v, m1, m2⟩ := h.2 j cs[j] (List.getElem?_eq_getElem hjn)
  simp only [List.getElem?_eq_getElem hj, hju, Option.some.injEq] at m1
  subst m1
  exact rep_atom m2 (atomsD_spec ha _ (List.getElem_mem hjn))

/-- Cells of a row that are written. -/
theorem Row.splice {F : Fz} {l vs : List DV} {cur : Array Value} {us : List Value} (h : Row F l (fun j => cur[j]?)) (hl : l.length ≤ cur.size) (k : RepL F vs us) {off : Nat} (ho : off + vs.length ≤ l.length) :
    Row F (l.take off ++ vs ++ l.drop (off + vs.length)) (fun j => (cur.toList.take off ++ us ++ cur.toList.drop (off + us.length)).toArray[j]?) := by
  have hlen := k.length
  rw [RepL_iff] at k
  intro j d hj
  rw [splice_get ho] at hj
  have := splice_get (l := cur.toList) (vs := us) (off := off) (by simp; omega) j
  simp only [List.getElem?_toArray]
  rw [this, hlen]
  split at hj
  · rename_i hr
    rw [if_pos hr]
    exact k.2 _ d hj
  · rename_i hr
    rw [if_neg hr]
    simpa using h j d hj

theorem flat_elem {k : Nat} {xs : List DV} (h : ∀ x ∈ xs, x.cells.length = k) {j : Nat} {x y : DV} (hx : xs[j]? = some x) {off : Nat} {vs : List DV} (hy : y.cells = x.cells.take off ++ vs ++ x.cells.drop (off + vs.length)) (ho : off + vs.length ≤ k) :
    flat (xs.set j y) = (flat xs).take (j * k + off) ++ vs ++ (flat xs).drop (j * k + off + vs.length) ∧ j * k + off + vs.length ≤ (flat xs).length := by
  have hj : j < xs.length := (List.getElem?_eq_some_iff.1 hx).1
  have hxs : xs.set j x = xs := by
    have := (List.getElem?_eq_some_iff.1 hx).2
    rw [← this]; exact List.set_getElem_self hj
  have h1 := flat_set h j x hj
  rw [hxs] at h1
  have h2 := flat_set h j y hj
  have hk : x.cells.length = k := h x (List.mem_of_getElem? hx)
  have hfl : (flat xs).length = xs.length * k := flat_length h
  have hle : j * k + k ≤ xs.length * k := by rw [← Nat.succ_mul]; exact Nat.mul_le_mul_right _ hj
  refine ⟨?_, by omega⟩
  have hA : ((flat xs).take (j * k)).length = j * k := by rw [List.length_take, hfl]; omega
  generalize hAe : (flat xs).take (j * k) = A at h1 h2 hA
  generalize hBe : (flat xs).drop (j * k + k) = B at h1 h2
  rw [h2, hy, h1]
  rw [List.append_assoc A x.cells B]
  have e1 : (A ++ (x.cells ++ B)).take (j * k + off) = A ++ x.cells.take off := by
    rw [← hA, List.take_length_add_append, List.take_append_of_le_length (by omega)]
  have e2 : (A ++ (x.cells ++ B)).drop (j * k + off + vs.length) = x.cells.drop (off + vs.length) ++ B := by
    rw [Nat.add_assoc, ← hA, List.drop_length_add_append, List.drop_append_of_le_length (by omega)]
  rw [e1, e2]
  simp [List.append_assoc]

theorem look_flat (hV : Shows V st) (h : Inv G Wr g st a.tmps w) {x : Operand} {d : DV} (hx : look V x = some d) (hf : d.flat = true) : Rep g.F d (a.eval x) := by
  rcases look_rep hV h hx with ⟨xs, rfl, _⟩ | ⟨_, h2⟩
  · simp [DV.flat] at hf
  · exact h2

theorem store_own (hV : Shows V st) (tie : Ties G P) (h : Inv G Wr g st a.tmps w) {T te : TypeId} {ad x : Operand} {p : Org} {j off n : Nat} {ys : List DV} {v e y : DV} (hD : dest V ad = some (.own p j off)) (hn : G.size T = some n) (hat : V.at_ p = .own te ys)
    (hx : look V x = some v) (hj : ys[j]? = some e) (hf : v.flat = true) (hvn : v.cells.length = n) (hle : off + n ≤ e.cells.length) (hlk : V.locked p = false) (hatom : atomsD v.cells = true)
    (hy : y.cells = e.cells.take off ++ v.cells ++ e.cells.drop (off + n)) {o : Oper} (ho : o.op = .store T ad x) (hsz : a.tmps.size = nt) (hd : okDst nt o.dst = true) :
    Good G Wr P base g st a w o { v := .undf, puts := [(p, .own te (ys.set j y))] } := by
  have hat' := hV.at_ (by rw [hat]; simp)
  rw [hat] at hat'
  have hD' := dest_rel hV h hD
  simp only [DRel, ViewRel] at hD'
  obtain ⟨xs, b, o', cap, size, x', k1, k2, k3, k4, k5⟩ := hD'
  have hxs : xs = ys := by
    rcases k1 with ⟨e', k1⟩ | k1
    · rw [hat'] at k1; simp only [AV.own.injEq] at k1; exact k1.2.symm
    · rw [hat'] at k1; cases k1
  subst hxs
  rw [hj] at k3
  simp only [Option.some.injEq] at k3; subst k3
  have hrep := look_flat hV h hx hf
  have hcells := rep_cells hrep
  have hclen := hcells.length
  obtain ⟨u, q1, q2⟩ := h.place p _ hat' (by simp) rfl
  rw [k2] at q1
  simp only [Option.some.injEq] at q1; subst q1
  simp only [PRel] at q2
  rcases q2 with ⟨rfl, _⟩ | ⟨b2, cap2, cur, ty, size2, m1, m2, m3, m4, m5, m6, m7, m8, m9, m10, m11, m12⟩
  · simp at hj
  · have m3' := m3
    simp only [Value.slice.injEq, Option.some.injEq, Addr.mk.injEq] at m3
    obtain ⟨⟨rfl, rfl, _⟩, _, rfl⟩ := m3
    have hes : e.cells.length = size2 := m7 e (List.mem_of_getElem? hj)
    have hes' : e.cells.length = size := k4 e (List.mem_of_getElem? hj)
    have hss : size = size2 := hes'.symm.trans hes
    subst hss
    have hjl : j < xs.length := (List.getElem?_eq_some_iff.1 hj).1
    obtain ⟨f1, f2⟩ := flat_elem m7 hj (y := y) (off := off) (vs := v.cells) (by rw [hvn]; exact hy) (by omega)
    have hfl : (flat xs).length = xs.length * size := flat_length m7
    have hfc : (flat xs).length ≤ cur.size := by rw [hfl, m6]; exact Nat.mul_le_mul_right _ m4
    simp only [Nat.zero_add] at k5
    have hrun := run_storeAt tie hn (b := b) (off := j * size + off) m5 (v := a.eval x) (by simp only [Array.length_toList] at hclen; omega) (by omega) (repL_atoms hcells hatom)
    generalize hw' : w.setRow b (cur.toList.take (j * size + off) ++ (a.eval x).cells.toList ++ cur.toList.drop (j * size + off + n)).toArray = w' at hrun
    have hheap : w'.heap[b]? = some (.cells (cur.toList.take (j * size + off) ++ (a.eval x).cells.toList ++ cur.toList.drop (j * size + off + n)).toArray ty (0, 0)) := by rw [← hw']; exact setRow_heap w _ cur _ ty _ m5
    have hother : ∀ b', b' ≠ b → w'.heap[b']? = w.heap[b']? := fun b' hb' => by rw [← hw']; exact setRow_other w _ b' _ hb'
    have hyl : y.cells.length = size := by rw [hy]; simp; omega
    have hall : ∀ z ∈ xs.set j y, z.cells.length = size := by
      intro z hz
      rcases List.mem_or_eq_of_mem_set hz with hz | rfl
      · exact m7 z hz
      · exact hyl
    have hown : OwnRel G Wr g st.ent st.lk w' p te (xs.set j y) (.slice (some ⟨b, 0, none⟩) xs.length cap) := by
      refine .inr ⟨b, cap, _, ty, size, m1, m2, by simp, by simpa using m4, hheap, ?_, hall, ?_, m9, m10, m11, m12⟩
      · simp only [Array.length_toList] at hclen
        simp
        omega
      · rw [f1]
        have hs := m8.splice hfc hcells f2
        rw [hclen, hvn] at hs
        rw [hvn]
        exact hs
    have hinv := h.setOwn hat' (u := .slice (some ⟨b, 0, none⟩) xs.length cap) k2 m9 m10 m11 hother (by rw [← hw']; simp [World.setRow]) hown (by simp)
      (fun s hs z hz => by rw [hall z hz, ← hes']; exact hs e (List.mem_of_getElem? hj))
    have hchg : Chg Wr base g w g w' := by
      refine ⟨.refl _, fun _ _ => ⟨rfl, rfl⟩, fun _ _ => rfl, fun _ _ => rfl, fun b' hb' => hother b' ?_, ?_, ?_, ?_, ?_⟩
      · rintro rfl
        exact hb' (m12 (by rw [← lockedP_eq, hV.locked]; exact hlk))
      · rw [← hw']; simp [World.setRow]
      · rw [← hw']; rfl
      · rw [← hw']; rfl
      · rw [← hw']; rfl
    refine good_last (v := undef) (res := .skip) (w1 := w') (g1 := g) (st1 := st.setPlace (.own te (xs.set j y)) p) (by simp [execOp, ho, k5, hrun]) (.inr ⟨rfl, rfl⟩) hsz hd hinv hchg rfl ?_
    intro d _
    simp only [isView, Bool.false_eq_true, if_false]
    intro _
    simp only [PRel, VRel]

theorem has_locked {V : Vw} {st : St} (hV : Shows V st) {id : Nat} (h : has id V.lk = false) : has id st.lk = false := by rw [← hV.lk]; exact h

theorem putIn_cells {v : AV} {u : Value} {c : AV} {T lk} {p : Org} (h : PRel G Wr g T lk w p v u) (hc : v.cells = [c]) : ∃ u', u.cells.toList = [u'] ∧ PRel G Wr g T lk w p c u' := by
  cases v with
  | own e xs =>
    simp only [AV.cells, List.cons.injEq, and_true] at hc; subst hc
    obtain ⟨q, cap, hq⟩ := OwnRel.header (by simpa only [PRel] using h)
    exact ⟨u, by rw [hq]; rfl, h⟩
  | vw o k => exact absurd h.notView (by simp [isView])
  | vp o j off => exact absurd h.notView (by simp [isView])
  | _ =>
    have h' := cells_rel (F := g.F) (θ := g.θ) (T := T) (v := u) h
    rw [hc] at h'
    simp only [VRelL] at h'
    obtain ⟨u', l', hl, hd, rfl⟩ := h'
    exact ⟨u', hl, PRel.of_vrel hd⟩

theorem atom_typed (c : AV) (e : TypeId) : (c.typed e).atom = c.atom := by cases c <;> rfl

theorem store_good (hV : Shows V st) (tie : Ties G P) (h : Inv G Wr g st a.tmps w) {T : TypeId} {ad x : Operand} {out : Out} {o : Oper} (ho : o.op = .store T ad x) (hsz : a.tmps.size = nt) (hd : okDst nt o.dst = true)
    (hm : storeOut G V T ad x = some out) : Good G Wr P base g st a w o out := by
  unfold storeOut at hm
  split at hm
  · rename_i p j off n hD hn
    split at hm
    · rename_i te ys v hat hx
      split at hm
      · rename_i e hj hf
        have hcs := cond_some hm
        clear hm
        obtain ⟨hcond, hm⟩ := hcs
        simp only [Bool.and_eq_true, beq_dec, ble_dec, decide_eq_true_eq, Bool.not_eq_true'] at hcond
        obtain ⟨⟨⟨c1, c2⟩, c3⟩, c4⟩ := hcond
        dsimp only at hm
        split at hm
        · simp only [Option.some.injEq] at hm; subst hm
          exact store_own hV tie h hD hn hat hx hj hf c1 c2 c3 c4 rfl ho hsz hd
        · rename_i hno
          split at hm
          · rename_i c hc
            simp only [Option.some.injEq] at hm; subst hm
            refine store_own hV tie h hD hn hat hx hj hf c1 c2 c3 c4 ?_ ho hsz hd
            rw [hc]
            have hcl := congrArg List.length hc
            simp at hcl
            -- one cell: the value itself is one
            have hmem : c ∈ e.cells.take off ++ v.cells ++ e.cells.drop (off + n) := by rw [hc]; simp
            cases c with
            | agg ds =>
              exfalso
              simp only [List.mem_append] at hmem
              rcases hmem with (hmem | hmem) | hmem
              · have := List.mem_of_mem_take hmem
                cases e <;> simp [DV.cells] at this
                exact hno _ rfl
              · have := atomsD_spec c4 _ hmem
                cases this
              · have := List.mem_of_mem_drop hmem
                cases e <;> simp [DV.cells] at this
                exact hno _ rfl
            | _ => rfl
          · cases hm
      · cases hm
    · cases hm
  · rename_i id off n hD hn
    cases hlk : has id V.lk with
    | true => rw [hlk] at hm; cases hm
    | false =>
      rw [hlk] at hm
      simp only [cond_false] at hm
      have hD' := dest_rel hV h hD
      simp only [DRel] at hD'
      split at hm
      · rename_i cs he
        have he' := hV.get id _ he
        have hexec : execOp a.eval o = (do Instr.storeAt T (.pointer (some ⟨g.θ id, off, none⟩)) (a.eval x); pure .skip) := by simp [execOp, ho, hD'.1]
        split at hm
        · rename_i cur hcut
          split at hm
          · rename_i v f t hx
            obtain ⟨g1, h1, h2, h3, _, h5, h6⟩ := putIn_stage hV h hx
            split at hm
            · rename_i c hc
              have hcs := cond_some hm
              clear hm
              obtain ⟨hatom, hm⟩ := hcs
              simp only [Option.some.injEq] at hm; subst hm
              obtain ⟨u', hu', hr⟩ := putIn_cells h6 hc
              have hn1 : n = 1 := by have := (cut_get hcut).1; simpa using this.symm
              refine store_box (tie := tie) h hn h1 h2 h3 he' (has_locked hV hlk) hcut (vs := [bif isConst x then c.typed (G.elem0 T) else c]) (by simp [hn1]) (a.eval x) (by rw [hu']; simp [hn1]) ?_ ?_ hexec hsz hd
              · intro A hA
                simp only [List.mem_singleton] at hA
                subst hA
                cases isConst x with
                | true => simp only [cond_true, atom_typed]; exact hatom
                | false => exact hatom
              · intro j A hA
                cases j with
                | succ j => simp at hA
                | zero =>
                  simp at hA; subst hA
                  refine ⟨u', by rw [hu']; rfl, ?_⟩
                  cases isConst x with
                  | true => exact hr.typed _
                  | false => exact hr
            · cases hm
          · cases hm
        · rename_i part hno hcut
          split at hm
          · rename_i vs f t hx
            obtain ⟨g1, h1, h2, h3, h4, h5⟩ := fresh_stage hV h hx (fun c => .cell id (off + c))
            have hcs := cond_some hm
            clear hm
            obtain ⟨hcond, hm⟩ := hcs
            simp only [Option.some.injEq] at hm; subst hm
            simp only [Bool.and_eq_true, beq_dec, decide_eq_true_eq] at hcond
            exact store_box (tie := tie) h hn h1 h2 h3 he' (has_locked hV hlk) hcut hcond.1 (a.eval x) (by rw [h4]; exact hcond.1) (atomsA_spec hcond.2) h5 hexec hsz hd
          · cases hm
        · cases hm
      · cases hm
  · cases hm

end
end Go.Abs
end

section
namespace Go.Abs

section
variable {G : Ctx} {Wr : Nat → Prop} {P : Program}
variable {g : Gh} {V : Vw} {st : St} {a : Act} {w : World} {base nt : Nat}

theorem run_mapUpdate_old {T kt e : TypeId} (hu : P.underlying T = some (.map kt e)) (hk : P.underlying kt = some .string) {r : Nat} {es : Array MapEntry} {clock : Nat} (hr : w.heap[r]? = some (.map es clock)) {key : ByteArray} {x : Value} {j : Nat} {en : MapEntry}
    (hj : es[j]? = some en) (hek : en.key = .string key) (hf : Instr.findNow .string (.string key) es.toList 0 = some (some (j, en.val))) :
    (Instr.mapUpdate T (.map (some r)) (.string key) x).run P w = .ok () { w with heap := w.heap.setIfInBounds r (.map (es.modify j fun e => { e with key := .string key, val := x }) clock) } := by
  have hkey : MapKept.IsKey .string (.string key) := by simp [MapKept.IsKey]
  simp [Instr.mapUpdate, run_underlying hu, MapKept.run_getObj_map hr, MapKept.run_checkKey hk hkey, MapKept.run_findKey hk hf, hj, hek, MapKept.run_keyThatStays hkey, MapKept.run_setObj_map _ hr, Result.andThen]

theorem run_mapUpdate_new {T kt e : TypeId} (hu : P.underlying T = some (.map kt e)) (hk : P.underlying kt = some .string) {r : Nat} {es : Array MapEntry} {clock : Nat} (hr : w.heap[r]? = some (.map es clock)) {key : ByteArray} {x : Value}
    (hf : Instr.findNow .string (.string key) es.toList 0 = some none) :
    (Instr.mapUpdate T (.map (some r)) (.string key) x).run P w = .ok () { w with heap := w.heap.setIfInBounds r (.map (es.push { key := .string key, val := x, born := clock }) (clock + 1)) } := by
  have hkey : MapKept.IsKey .string (.string key) := by simp [MapKept.IsKey]
  simp [Instr.mapUpdate, run_underlying hu, MapKept.run_getObj_map hr, MapKept.run_checkKey hk hkey, MapKept.run_findKey hk hf, MapKept.run_setObj_map _ hr, Result.andThen]

theorem put_grow (st : St) (dst : Option Nat) (v : AV) (f t : List Org) (id : Nat) (kv : ByteArray × AV) : st.put dst { v := v, frz := f, take := t, grow := [(id, kv)] } =
    let st3 := (t.foldl St.take1 (f.foldl St.freeze1 st)).setEnt id (growEnt kv)
    match dst with
    | some d => st3.setSlot d v
    | none => st3 := by
  unfold St.put; rfl

theorem stage_map {g1 : Gh} {st1 : St} {tmps : Array Value} (h : Inv G Wr g st tmps w) (h1 : Inv G Wr g1 st1 tmps w) (hθ : g1.θ = g.θ) (htb : Tb st st1) {id : Nat} {kv : List (ByteArray × AV)} (he : st.ent id = some (.map kv)) :
    ∃ kv1, st1.ent id = some (.map kv1) ∧ kv1.map (fun x => Value.string x.1) = kv.map (fun x => Value.string x.1) := by
  have hm1 : isMapE (st1.ent id) = true := ((htb.kept g.θ).map id (by rw [he]; rfl)).1
  cases hq : st1.ent id with
  | none => rw [hq] at hm1; cases hm1
  | some e => cases e with
    | box cs1 => rw [hq] at hm1; cases hm1
    | map kv1 =>
      obtain ⟨es, clock, k1, k2⟩ := h.heap.map id kv he
      obtain ⟨es1, clock1, m1, m2⟩ := h1.heap.map id kv1 hq
      rw [hθ, k1] at m1
      simp only [Option.some.injEq, Obj.map.injEq] at m1
      exact ⟨kv1, rfl, by rw [← m2, ← m1.1, k2]⟩

theorem chg_set {g g1 : Gh} {w : World} {b : Nat} {o : Obj} (hg : GStep Wr g g1) (hb : Wr b) : Chg Wr base g w g1 { w with heap := w.heap.setIfInBounds b o } := by
  refine ⟨hg.le, hg.new, hg.ow, fun i _ => by rw [hg.θ], fun b' hb' => ?_, by simp, rfl, rfl, rfl⟩
  have : b ≠ b' := by rintro rfl; exact hb' hb
  simp [this]

theorem mapUpdate_good (hV : Shows V st) (tie : Ties G P) (h : Inv G Wr g st a.tmps w) {T : TypeId} {m k x : Operand} {out : Out} {o : Oper} (ho : o.op = .mapUpdate T m k x ∨ o.op = .insert T m k x) (hsz : a.tmps.size = nt) (hd : okDst nt o.dst = true)
    (hm : mapUpdateOut G V T m k x = some out) : Good G Wr P base g st a w o out := by
  have hexec : execOp a.eval o = (do Instr.mapUpdate T (a.eval m) (a.eval k) (a.eval x); pure .skip) := by rcases ho with ho | ho <;> simp [execOp, ho]
  unfold mapUpdateOut at hm
  split at hm
  · rename_i e key id hT hk hmm
    obtain ⟨kt, hu, hkt⟩ := tie.mapElem hT
    have hkey := scalar_rep hV h hk
    simp only [Rep] at hkey
    have hmv := opnd_rel hV h hmm (by simp) rfl
    simp only [VRel] at hmv
    rw [hkey, hmv.1] at hexec
    cases hlk : has id V.lk with
    | true => rw [hlk] at hm; cases hm
    | false =>
      rw [hlk] at hm
      simp only [cond_false] at hm
      split at hm
      · rename_i kv he
        have he' := hV.get id _ he
        have hne : st.ent id ≠ none := by rw [he']; simp
        have hwr : Wr (g.θ id) := h.heap.wr id hne (has_locked hV hlk)
        obtain ⟨es, clock, hr, hks⟩ := h.heap.map id kv he'
        have hspec := lookupKey_spec key kv es.toList 0 hks
        have hlenk : es.size = kv.length := by have := congrArg List.length hks; simpa using this
        have hlast : ∀ (g1 : Gh) (st3 : St) (d : Nat) (w' : World), o.dst = some d → if isView (AV.undf) then ViewRel g1 st3 a.tmps w' .undf undef ∧ AV.undf.views (.slot d) = false else AV.undf ≠ .junk → PRel G Wr g1 st3.ent st3.lk w' (.slot d) .undf undef := by
          intro g1 st3 d w' _
          simp only [isView, Bool.false_eq_true, if_false]
          intro _
          simp only [PRel, VRel]
        unfold mapPut at hm
        split at hm
        · rename_i i A hl
          rw [hl] at hspec
          obtain ⟨i', en, q1, q2, q3, q4, q5⟩ := hspec
          simp only [Nat.zero_add] at q1; subst q1
          split at hm
          · rename_i v f t hx
            obtain ⟨g1, h1, h2, h3, _, h5, h6⟩ := putIn_stage hV h hx
            have hout : out = { v := .undf, frz := f, take := t, kill := [.cell id i], puts := [(.cell id i, v)] } := by
              split at hm <;> simp only [Option.some.injEq, reduceCtorEq] at hm <;> exact hm.symm
            subst hout
            generalize hst1 : t.foldl St.take1 (f.foldl St.freeze1 st) = st1 at h2 h3 h6
            obtain ⟨kv1, he1, hks1⟩ := stage_map h h2 h1.θ h3 he'
            obtain ⟨k1, k2, k3, k4, k5⟩ := kills [.cell id i] h2
            generalize hst2 : [Org.cell id i].foldl St.kill1 st1 = st2 at k1 k2 k3 k4 k5
            have he2 : st2.ent id = some (.map kv1) := by rw [ent_of_tb k2]; exact he1
            have hlen1 : kv1.length = kv.length := by have := congrArg List.length hks1; simpa using this
            have hi : i < kv.length := (List.getElem?_eq_some_iff.1 q3).1
            obtain ⟨p1, p2, p3⟩ := puts_fold id [v] i st2 (.map kv1) he2
            simp only [setCells, setCell] at p3
            have hrun := run_mapUpdate_old hu hkt (x := a.eval x) hr (j := i) (en := en) (by simpa using q2) q5 q4
            obtain ⟨s1, s2⟩ := MapKept.heap_set (o' := .map (es.modify i fun e => { e with key := .string key, val := a.eval x }) clock) hr
            have hce : ∀ c, cellOf (some (.map (setKv v i kv1))) c = if c = i then v else cellOf (some (.map kv1)) c := by
              intro c
              simp only [cellOf, setKv_get]
              by_cases hc : c = i
              · subst hc
                have : c < kv1.length := by omega
                simp [this]
              · simp [hc]
            have hcv : ∀ c, cellVal { w with heap := w.heap.setIfInBounds (g.θ id) (.map (es.modify i fun e => { e with key := .string key, val := a.eval x }) clock) } (g.θ id) c = if c = i then some (a.eval x) else cellVal w (g.θ id) c := by
              intro c
              simp only [cellVal, s1, hr, Array.getElem?_modify]
              by_cases hc : c = i
              · subst hc
                have : c < es.size := by omega
                simp [this]
              · simp [hc, Ne.symm hc]
            have hprel : ∀ p A u, PRel G Wr g1 st1.ent st1.lk w p A u → PRel G Wr g1 st2.ent st2.lk w p A u := by
              intro p A u hp
              rw [k3]
              have : st2.ent = st1.ent := funext fun j => ent_of_tb k2 j
              rw [this]; exact hp
            have hinv := k1.reEnt (w' := { w with heap := w.heap.setIfInBounds (g.θ id) (.map (es.modify i fun e => { e with key := .string key, val := a.eval x }) clock) }) (e' := .map (setKv v i kv1)) he2 p1 p2 p3 rfl rfl
              (fun b hb => s2 b (by rw [← h1.θ]; exact hb)) (by simp) (by intro cs hcs; cases hcs) ?_ ?_ ?_
            · refine good_last (v := undef) (res := .skip) (by rw [hexec]; simp [hrun]) (.inr ⟨rfl, rfl⟩) hsz hd hinv (chg_set h1 hwr) (by rw [put_store, hst1, hst2]; rfl) (fun d hd' => hlast _ _ d _ hd')
            · intro kv' hkv
              simp only [Ent.map.injEq] at hkv; subst hkv
              refine ⟨_, clock, by rw [h1.θ]; exact s1, ?_⟩
              rw [setKv_keys, hks1, ← hks]
              exact MapKept.modify_keys i _ (fun e' he' => by
                have : es[i]? = some en := by simpa using q2
                rw [this] at he'
                simp only [Option.some.injEq] at he'; subst he'
                exact q5.symm)
            · intro c A hA hj
              rw [hce] at hA
              rw [h1.θ, hcv]
              by_cases hc : c = i
              · rw [if_pos hc] at hA ⊢
                subst hA; subst hc
                exact .inr ⟨_, rfl, hprel _ _ _ h6⟩
              · rw [if_neg hc] at hA ⊢
                exact .inl ⟨hA, rfl⟩
            · intro n c hvw
              rw [hce, h1.θ, hcv]
              by_cases hc : c = i
              · subst hc
                rw [k5 _ (by simp) n] at hvw; cases hvw
              · rw [if_neg hc, if_neg hc]; exact ⟨rfl, rfl⟩
          · cases hm
        · rename_i hl
          rw [hl] at hspec
          split at hm
          · rename_i v f t hx
            obtain ⟨g1, h1, h2, h3, _, h5, h6⟩ := putIn_stage hV h hx
            have hout : out = { v := .undf, frz := f, take := t, grow := [(id, key, v)] } := by
              split at hm <;> simp only [Option.some.injEq, reduceCtorEq] at hm <;> exact hm.symm
            subst hout
            generalize hst1 : t.foldl St.take1 (f.foldl St.freeze1 st) = st1 at h2 h3 h6
            obtain ⟨kv1, he1, hks1⟩ := stage_map h h2 h1.θ h3 he'
            have hlen1 : kv1.length = kv.length := by have := congrArg List.length hks1; simpa using this
            have hrun := run_mapUpdate_new hu hkt (x := a.eval x) hr hspec.1
            obtain ⟨s1, s2⟩ := MapKept.heap_set (o' := .map (es.push { key := .string key, val := a.eval x, born := clock }) (clock + 1)) hr
            have p3 : ∀ j, (st1.setEnt id (growEnt (key, v))).ent j = if id = j then some (.map (kv1 ++ [(key, v)])) else st1.ent j := by
              intro j
              rw [ent_setEnt, he1]
              rfl
            have hce : ∀ c, cellOf (some (.map (kv1 ++ [(key, v)]))) c = if c = kv1.length then v else cellOf (some (.map kv1)) c := by
              intro c
              simp only [cellOf, List.getElem?_append]
              by_cases hc : c = kv1.length
              · subst hc; simp
              · by_cases hlt : c < kv1.length
                · simp [hc, hlt]
                · have h1' : kv1[c]? = none := List.getElem?_eq_none (by omega)
                  have h2' : ([(key, v)] : List (ByteArray × AV))[c - kv1.length]? = none := List.getElem?_eq_none (by simp; omega)
                  simp [hc, hlt, h1', h2']
            have hcv : ∀ c, cellVal { w with heap := w.heap.setIfInBounds (g.θ id) (.map (es.push { key := .string key, val := a.eval x, born := clock }) (clock + 1)) } (g.θ id) c = if c = kv1.length then some (a.eval x) else cellVal w (g.θ id) c := by
              intro c
              simp only [cellVal, s1, hr, Array.getElem?_push]
              have hee : es.size = kv1.length := by omega
              by_cases hc : c = kv1.length
              · subst hc; simp [hee]
              · have hc' : ¬ c = es.size := by omega
                simp [hc, hc']
            have hinv := h2.reEnt (st' := st1.setEnt id (growEnt (key, v))) (w' := { w with heap := w.heap.setIfInBounds (g.θ id) (.map (es.push { key := .string key, val := a.eval x, born := clock }) (clock + 1)) }) (e' := .map (kv1 ++ [(key, v)])) he1
              (by simp only [St.setEnt]; split <;> rfl) (lk_setEnt _ _ _) p3 rfl rfl (fun b hb => s2 b (by rw [← h1.θ]; exact hb)) (by simp) (by intro cs hcs; cases hcs) ?_ ?_ ?_
            · refine good_last (v := undef) (res := .skip) (by rw [hexec]; simp [hrun]) (.inr ⟨rfl, rfl⟩) hsz hd hinv (chg_set h1 hwr) (by rw [put_grow, hst1]; rfl) (fun d hd' => hlast _ _ d _ hd')
            · intro kv' hkv
              simp only [Ent.map.injEq] at hkv; subst hkv
              refine ⟨_, _, by rw [h1.θ]; exact s1, ?_⟩
              simp [hks, hks1]
            · intro c A hA hj
              rw [hce] at hA
              rw [h1.θ, hcv]
              by_cases hc : c = kv1.length
              · rw [if_pos hc] at hA ⊢
                subst hA; subst hc
                exact .inr ⟨_, rfl, by rw [hlen1]; exact h6⟩
              · rw [if_neg hc] at hA ⊢
                exact .inl ⟨hA, rfl⟩
            · intro n c hvw
              rw [hce, h1.θ, hcv]
              by_cases hc : c = kv1.length
              · exfalso
                obtain ⟨u, r1, r2⟩ := h2.view n (st1.slot n) rfl (views_isView hvw)
                have hs := viewRel_shown r2 hvw
                rw [at_cell, he1, hc] at hs
                simp [cellOf, AV.shown] at hs
              · rw [if_neg hc, if_neg hc]; exact ⟨rfl, rfl⟩
          · cases hm
      · cases hm
  · cases hm

end
end Go.Abs
end

/-
  A part of the proof of the seat's statements: a functional interpreter of the translated code and the proof that each call of the machine does what it says; no condition.
-/
import Derived.HandedShaped
import Derived.Handed
import Derived.Test.YtjgfjfdodekkpaaGreatDoorAbs3
set_option linter.all false

section
namespace Go.Abs

section
variable {G : Ctx} {Wr : Nat → Prop} {P : Program} {Gl : Fz → Prop} {call : CallF} {base nt : Nat} {kept : List Nat} {ops : Array Oper}

theorem has_append (t : Nat) (a b : List Nat) : t ∈ a ++ b ↔ t ∈ a ∨ t ∈ b := List.mem_append

theorem sub_len : ∀ (n : Nat) (L : List Nat), (∀ j, j < n → j ∈ L) → n ≤ L.length
  | 0, L, _ => Nat.zero_le _
  | n + 1, L, h => by
    have h1 := sub_len n (L.erase n) (fun j hj => (List.mem_erase_of_ne (by omega)).2 (h j (by omega)))
    have h2 := List.length_erase_of_mem (h n (by omega))
    have h3 := List.length_pos_of_mem (h n (by omega))
    omega

/-- What the mask shows is there. -/
theorem shows_mask {S0 s : St} {o : Oper} (h1 : ∀ t ∈ looksSl ops.toList S0 o, s.slot t = S0.slot t) (h2 : ∀ j ∈ looksId base S0 o, s.ent j = S0.ent j) (hl : s.lk = S0.lk) : Shows (mask S0 (looksSl ops.toList S0 o) (looksId base S0 o)) s := by
  refine ⟨fun t => ?_, fun i e hi => ?_, hl.symm⟩
  · simp only [mask]
    cases hh : has t (looksSl ops.toList S0 o) with
    | false => exact .inl rfl
    | true => exact .inr (h1 t ((has_iff _ _).1 hh)).symm
  · simp only [mask] at hi
    cases hh : has i (looksId base S0 o) with
    | false => rw [hh] at hi; cases hi
    | true =>
      rw [hh] at hi
      rw [h2 i ((has_iff _ _).1 hh)]; exact hi

theorem sees_mask {S0 s : St} {o : Oper} (h2 : ∀ j ∈ looksId base S0 o, s.ent j = S0.ent j) : SeesNew (mask S0 (looksSl ops.toList S0 o) (looksId base S0 o)) s base o.dst := by
  intro d hd
  have hm : base + d ∈ looksId base S0 o := by simp [looksId, hd]
  simp only [mask, (has_iff _ _).2 hm, cond_true]
  exact (h2 _ hm).symm

theorem Inv.drawn {g : Gh} {st : St} {tmps : Array Value} {w : World} (h : Inv G Wr g st tmps w) : Inv G Wr g st tmps { w with drawn := w.drawn + 1 } :=
  h.ext rfl (fun _ _ => rfl) (fun _ _ hp _ => hp) (fun _ _ => rfl) (Nat.le_refl _)
theorem Chg.drawn {g : Gh} {w : World} : Chg Wr base g w g { w with drawn := w.drawn + 1 } :=
  ⟨.refl _, fun _ _ => ⟨rfl, rfl⟩, fun _ _ => rfl, fun _ _ => rfl, fun _ _ => rfl, Nat.le_refl _, rfl, rfl, rfl⟩

theorem drawn_good (hcall : CallsOK G P Gl call) (pr : Prims G P Gl) (tie : Ties G P) {st st' : St} (D : Drawn G call base nt kept ops st st') {Q : Exit → Act → World → Prop} :
    ∀ (fuel : Nat) (listed : Array Bool) (L : List Nat) (s : St) {g : Gh} {a : Act} {w : World}, L.length + fuel = ops.size → (∀ j, j < ops.size → listed[j]? = some (decide (j ∈ L))) → listed.size = ops.size → Mid D L s → Inv G Wr g s a.tmps w → Gl g.F → a.tmps.size = nt →
      Next1 G Wr base g a w st' (Q .normal) → wpAny P .any ops Q fuel listed a w
  | 0, listed, L, s, g, a, w, hl, hli, hls, M, h, hgl, hsz, hn => by
    have hall := nodup_all M.nodup M.lt (by omega)
    obtain ⟨d1, d2, d3⟩ := D.done M (by omega)
    refine ⟨?_, hn g a w (h.congr d1 d2 d3) (.refl _ _ _ _) rfl rfl⟩
    apply List.eq_nil_iff_forall_not_mem.2
    intro j hj
    obtain ⟨h0, o, ho, _⟩ := mem_ready.1 hj
    have hjs : j < ops.size := (Array.getElem?_eq_some_iff.1 ho).1
    have := hli j hjs
    simp [hall j hjs] at this
    obtain ⟨h1, h2⟩ := Array.getElem?_eq_some_iff.1 this
    simp [h1, h2] at h0
  | fuel + 1, listed, L, s, g, a, w, hl, hli, hls, M, h, hgl, hsz, hn => by
    have hgetT : ∀ j, j < ops.size → listed.getD j true = decide (j ∈ L) := by
      intro j hj
      obtain ⟨h1, h2⟩ := Array.getElem?_eq_some_iff.1 (hli j hj)
      simp [h1, h2]
    have hgetF : ∀ j, listed.getD j false = true → j ∈ L := by
      intro j hj
      rcases Nat.lt_or_ge j ops.size with hlt | hge
      · obtain ⟨h1, h2⟩ := Array.getElem?_eq_some_iff.1 (hli j hlt)
        simpa [h1, h2] using hj
      · have : ¬ j < listed.size := by omega
        simp [Array.getElem?_eq_none (Nat.not_lt.1 this)] at hj
    have hgetF' : ∀ j, j ∈ L → listed.getD j false = true := by
      intro j hj
      obtain ⟨h1, h2⟩ := Array.getElem?_eq_some_iff.1 (hli j (M.lt j hj))
      simp [h1, h2, hj]
    refine ⟨fun hr => ?_, fun i hi => ?_⟩
    · -- there is one that may come
      exfalso
      have hex : ∃ j, j < ops.size ∧ j ∉ L := by
        apply Classical.byContradiction
        intro hno
        have hsub : ∀ j, j < ops.size → j ∈ L := fun j hj => Classical.byContradiction fun hnl => hno ⟨j, hj, hnl⟩
        have hle : (List.range ops.size).length ≤ L.length := by
          simpa using sub_len ops.size L hsub
        simp at hle
        omega
      -- the least one
      have hmin : ∃ j, j < ops.size ∧ j ∉ L ∧ ∀ k, k < j → k ∈ L := by
        obtain ⟨j, hj, hnj⟩ := hex
        revert hj hnj
        induction j using Nat.strongRecOn with
        | _ j ih =>
          intro hj hnj
          by_cases hk : ∃ k, k < j ∧ k ∉ L
          · obtain ⟨k, hk1, hk2⟩ := hk
            exact ih k hk1 (by omega) hk2
          · exact ⟨j, hj, hnj, fun k hk' => Classical.byContradiction fun hnl => hk ⟨k, hk', hnl⟩⟩
      obtain ⟨j, hj, hnj, hlow⟩ := hmin
      obtain ⟨o, ho, _⟩ := Drawn.get hj
      obtain ⟨b, _, hb, _⟩ := D.bits ho
      have : j ∈ Region.ready .any ops listed := by
        refine mem_ready.2 ⟨by rw [hgetT j hj]; simp [hnj], o, ho, fun e he hbe => hgetF' _ (hlow _ (hb e he hbe))⟩
      rw [hr] at this
      cases this
    · obtain ⟨h0, o, ho, hall⟩ := mem_ready.1 hi
      have his : i < ops.size := (Array.getElem?_eq_some_iff.1 ho).1
      have hiL : i ∉ L := by
        rw [hgetT i his] at h0
        simpa using h0
      obtain ⟨n1, n2, n3⟩ := D.next M ho hiL (fun e he hbe => hgetF _ (hall e he hbe))
      obtain ⟨t1, t2, t3, t4⟩ := D.t.step i o (by simpa using ho)
      have hlk : s.lk = (D.S i).lk := by rw [M.lk, D.lk (by omega)]
      unfold wpOp
      rw [ho]
      refine step_good hcall pr tie (V := mask (D.S i) (looksSl ops.toList (D.S i) o) (looksId base (D.S i) o)) (shows_mask n1 n2 hlk) h hgl hsz (sees_mask n2) t1 (next := wpAny P .any ops Q fuel (listed.setIfInBounds i true)) ?_
      intro g' a' w' k1 k2 k3 k4
      refine drawn_good hcall pr tie D fuel (listed.setIfInBounds i true) (i :: L) _ (by simp; omega) ?_ (by simpa using hls) n3 k1 (pr.up _ _ k2.le hgl) (k4.trans hsz) ?_
      · intro j hj
        by_cases hij : i = j
        · subst hij
          have : i < listed.size := by omega
          simp [this]
        · rw [Array.getElem?_setIfInBounds_ne hij, hli j hj]
          simp [Ne.symm hij]
      · intro g2 a2 w2 m1 m2 m3 m4
        exact hn g2 a2 w2 m1 (k2.trans m2) (m3.trans k3) (m4.trans k4)

theorem region_good (hcall : CallsOK G P Gl call) (pr : Prims G P Gl) (tie : Ties G P) {st st' : St} {id : Nat} {draw : Bool} (hr : region G call base nt kept ops.toList draw st = some st') {g : Gh} {a : Act} {w : World} (h : Inv G Wr g st a.tmps w) (hgl : Gl g.F) (hsz : a.tmps.size = nt)
    {Q : Exit → Act → World → Prop} (hn : Next1 G Wr base g a w st' (Q .normal)) : (Code.region id ops draw).wp P Q a w := by
  have fin : ∀ st1, clear base kept st1 = some st' → ∀ {g0 : Gh} {a0 : Act} {w0 : World}, Chg Wr base g w g0 w0 → a0.defers = a.defers → a0.tmps.size = a.tmps.size → Next1 G Wr base g0 a0 w0 st1 (Q .normal) := by
    intro st1 hc g0 a0 w0 h0 hd0 hs0 g' a' w' h1 h2 h3 h4
    exact hn g' a' w' (clear_good h1 hc).1 (h0.trans h2) (h3.trans hd0) (h4.trans hs0)
  unfold region at hr
  cases draw with
  | false =>
    simp only at hr
    split at hr
    · rename_i st1 h1
      apply wp_region
      rw [List.range_eq_range']
      have := runOps_good (Q := Q) hcall pr tie (ops := ops) (kept := kept) ops.size h hgl hsz 0 (by omega) (st' := st1) (by simpa using h1) (fin st1 hr (.refl _ _ _ _) rfl rfl)
      exact this
    · cases hr
  | true =>
    simp only at hr
    split at hr
    · rename_i bs st1 fs Ws hb hf
      have hcs := cond_some hr
      clear hr
      obtain ⟨hcond, hr⟩ := hcs
      simp only [Bool.and_eq_true] at hcond
      obtain ⟨S, O, t⟩ := runFeet_texts hf
      let D : Drawn G call base nt kept ops st st1 := { fs := fs, Ws := Ws, bs := bs, S := S, O := O, t := t, hb := hb, ho := hcond.1, hv := hcond.2 }
      apply wp_region_any tie.mixed
      refine drawn_good hcall pr tie D ops.size (Array.replicate ops.size false) [] st (by simp) (fun j hj => by simp [hj]) (by simp) ?_ h.drawn hgl hsz ?_
      · refine { nodup := List.nodup_nil, lt := by simp, closed := by simp, slot := fun t => .inr ⟨by simp, by simp [D.t.first]⟩, ent := fun i => .inr ⟨by simp, by simp [D.t.first]⟩, lk := rfl }
      · exact fin st1 hr Chg.drawn rfl rfl
    · cases hr

end
end Go.Abs
end

section
namespace Go.Abs

def EX.exit_ : EX → Exit
  | .norm => .normal
  | .exit i => .exit i
  | .ret => .ret

theorem least {p : Nat → Prop} (h : ∃ j, p j) : ∃ j, p j ∧ ∀ i, p i → j ≤ i := by
  obtain ⟨j, hj⟩ := h
  revert hj
  induction j using Nat.strongRecOn with
  | _ j ih =>
    intro hj
    by_cases hk : ∃ k, k < j ∧ p k
    · obtain ⟨k, hk1, hk2⟩ := hk
      exact ih k hk1 hk2
    · exact ⟨j, hj, fun i hi => Nat.not_lt.1 fun hlt => hk ⟨i, hlt, hi⟩⟩

open Classical in
noncomputable def leastOf (p : Nat → Prop) : Nat := if h : ∃ j, p j then Classical.choose (least h) else 0
theorem leastOf_spec {p : Nat → Prop} (h : ∃ j, p j) : p (leastOf p) ∧ ∀ i, p i → leastOf p ≤ i := by
  unfold leastOf
  rw [dif_pos h]
  exact Classical.choose_spec (least h)

section
variable {G : Ctx} {Wr : Nat → Prop} {P : Program} {Gl : Fz → Prop} {call : CallF} {base nt : Nat} {keptF : Nat → List Nat}

theorem Next1.trans {g : Gh} {a : Act} {w : World} {st' : St} {next : Act → World → Prop} (hn : Next1 G Wr base g a w st' next) {g1 : Gh} {a1 : Act} {w1 : World} (h2 : Chg Wr base g w g1 w1) (h3 : a1.defers = a.defers) (h4 : a1.tmps.size = a.tmps.size) : Next1 G Wr base g1 a1 w1 st' next :=
  fun g2 a2 w2 k1 k2 k3 k4 => hn g2 a2 w2 k1 (h2.trans k2) (k3.trans h3) (k4.trans h4)

theorem exec_good (hcall : CallsOK G P Gl call) (pr : Prims G P Gl) (tie : Ties G P) (k : Nat) : ∀ (c : Code) {st : St} {e : EX} {st' : St}, exec G call base nt keptF k c st = some (e, st') → ∀ {g : Gh} {a : Act} {w : World} {Q : Exit → Act → World → Prop},
    Inv G Wr g st a.tmps w → Gl g.F → a.tmps.size = nt → Next1 G Wr base g a w st' (Q e.exit_) → c.wp P Q a w
  | .skip, st, e, st', hx, g, a, w, Q, h, hgl, hsz, hn => by
    simp only [exec, Option.some.injEq, Prod.mk.injEq] at hx
    obtain ⟨rfl, rfl⟩ := hx
    exact wp_skip (hn g a w h (.refl _ _ _ _) rfl rfl)
  | .region id ops draw, st, e, st', hx, g, a, w, Q, h, hgl, hsz, hn => by
    simp only [exec] at hx
    split at hx
    · rename_i st1 hr
      simp only [Option.some.injEq, Prod.mk.injEq] at hx
      obtain ⟨rfl, rfl⟩ := hx
      exact region_good hcall pr tie hr h hgl hsz hn
    · cases hx
  | .seq x y, st, e, st', hx, g, a, w, Q, h, hgl, hsz, hn => by
    simp only [exec] at hx
    split at hx
    · rename_i st1 h1
      refine wp_seq (exec_good hcall pr tie k x h1 h hgl hsz ?_)
      intro g1 a1 w1 k1 k2 k3 k4
      exact exec_good hcall pr tie k y hx k1 (pr.up _ _ k2.le hgl) (k4.trans hsz) (hn.trans k2 k3 k4)
    · rename_i e1 st1 hne h1
      simp only [Option.some.injEq, Prod.mk.injEq] at hx
      obtain ⟨rfl, rfl⟩ := hx
      refine wp_seq (exec_good hcall pr tie k x h1 h hgl hsz ?_)
      cases e1 with
      | norm => exact (hne rfl).elim
      | exit i => exact hn
      | ret => exact hn
    · cases hx
  | .cond c x y, st, e, st', hx, g, a, w, Q, h, hgl, hsz, hn => by
    simp only [exec] at hx
    split at hx
    · rename_i hc
      have := opnd_rel (Shows.all st) h hc (by simp) rfl
      simp only [VRel, Rep] at this
      exact wp_cond_true this (exec_good hcall pr tie k x hx h hgl hsz hn)
    · rename_i hc
      have := opnd_rel (Shows.all st) h hc (by simp) rfl
      simp only [VRel, Rep] at this
      exact wp_cond_false this (exec_good hcall pr tie k y hx h hgl hsz hn)
    · cases hx
  | .block id c, st, e, st', hx, g, a, w, Q, h, hgl, hsz, hn => by
    simp only [exec] at hx
    split at hx
    · rename_i i st1 h1
      simp only [Option.some.injEq, Prod.mk.injEq] at hx
      obtain ⟨rfl, rfl⟩ := hx
      refine wp_block (exec_good hcall pr tie k c h1 h hgl hsz ?_)
      intro g1 a1 w1 k1 k2 k3 k4
      have := hn g1 a1 w1 k1 k2 k3 k4
      simp only [EX.exit_, Exit.inBlock]
      rw [beq_dec] at this
      by_cases hi : i = id
      · simp only [hi, decide_true, cond_true, EX.exit_] at this
        simp only [hi, if_true]; exact this
      · simp only [hi, decide_false, cond_false, EX.exit_] at this
        simp only [hi, if_false]; exact this
    · rename_i hne
      refine wp_block (exec_good hcall pr tie k c hx h hgl hsz ?_)
      cases e with
      | norm => exact hn
      | exit i => exact (hne i st' hx).elim
      | ret => exact hn
  | .loop c, st, e, st', hx, g, a, w, Q, h, hgl, hsz, hn => by
    simp only [exec] at hx
    let R : Act → World → Nat → Prop := fun a1 w1 j => ∃ st1 g1, loopN (exec G call base nt keptF k c) j st1 = some (e, st') ∧ Inv G Wr g1 st1 a1.tmps w1 ∧ Gl g1.F ∧ a1.tmps.size = nt ∧ a1.defers = a.defers ∧ a1.tmps.size = a.tmps.size ∧ Chg Wr base g w g1 w1
    refine wp_loop (I := fun a1 w1 => ∃ j, R a1 w1 j) (μ := fun a1 w1 => leastOf (R a1 w1)) ⟨k, st, g, hx, h, hgl, hsz, rfl, rfl, .refl _ _ _ _⟩ ?_
    intro a1 w1 hI
    obtain ⟨⟨st1, g1, r1, r2, r3, r4, r5, r6, r7⟩, hmin⟩ := leastOf_spec hI
    generalize hj : leastOf (R a1 w1) = j at r1
    cases j with
    | zero => simp [loopN] at r1
    | succ j =>
      simp only [loopN] at r1
      split at r1
      · rename_i st2 h2
        refine exec_good hcall pr tie k c h2 r2 r3 r4 ?_
        intro g2 a2 w2 k1 k2 k3 k4
        have hR : R a2 w2 j := ⟨st2, g2, r1, k1, pr.up _ _ k2.le r3, k4.trans r4, k3.trans r5, k4.trans r6, r7.trans k2⟩
        refine ⟨⟨j, hR⟩, ?_⟩
        have := (leastOf_spec (p := R a2 w2) ⟨j, hR⟩).2 j hR
        omega
      · rename_i e2 st2 hne h2
        simp only [Option.some.injEq, Prod.mk.injEq] at r1
        obtain ⟨rfl, rfl⟩ := r1
        refine exec_good hcall pr tie k c h2 r2 r3 r4 ?_
        cases e2 with
        | norm => exact (hne rfl).elim
        | exit i => exact hn.trans r7 r5 r6
        | ret => exact hn.trans r7 r5 r6
      · cases r1
  | .exit id, st, e, st', hx, g, a, w, Q, h, hgl, hsz, hn => by
    simp only [exec, Option.some.injEq, Prod.mk.injEq] at hx
    obtain ⟨rfl, rfl⟩ := hx
    exact wp_exit (hn g a w h (.refl _ _ _ _) rfl rfl)
  | .ret, st, e, st', hx, g, a, w, Q, h, hgl, hsz, hn => by
    simp only [exec, Option.some.injEq, Prod.mk.injEq] at hx
    obtain ⟨rfl, rfl⟩ := hx
    exact wp_ret (hn g a w h (.refl _ _ _ _) rfl rfl)
  | .rangeFunc _ _ _ _, st, e, st', hx, g, a, w, Q, h, hgl, hsz, hn => by simp [exec] at hx
  | .scope _, st, e, st', hx, g, a, w, Q, h, hgl, hsz, hn => by simp [exec] at hx
  | .label _, st, e, st', hx, g, a, w, Q, h, hgl, hsz, hn => by simp [exec] at hx
  | .goto _, st, e, st', hx, g, a, w, Q, h, hgl, hsz, hn => by simp [exec] at hx
  | .refuse _, st, e, st', hx, g, a, w, Q, h, hgl, hsz, hn => by simp [exec] at hx

end
end Go.Abs
end

section
namespace Go.Abs

section
variable {G : Ctx} {Wr : Nat → Prop} {P : Program} {Gl : Fz → Prop} {base : Nat}

/-! ## Results -/

/-- A result's value: of a slot, of an own box; an aggregate of an own box. -/
def RR (G : Ctx) (Wr : Nat → Prop) (base : Nat) (g : Gh) (T : Nat → Option Ent) (lk : List Nat) (w : World) (A : AV) (u : Value) : Prop :=
  (∃ p, (∀ id c, p = Org.cell id c → base ≤ id) ∧ PRel G Wr g T lk w p A u) ∨
  (∃ cs us, A = .agg cs ∧ u = .agg us ∧ us.toList.length = cs.length ∧ ∀ (j : Nat) B, cs[j]? = some B → B ≠ .junk → ∃ u' p, us.toList[j]? = some u' ∧ (∀ id c, p = Org.cell id c → base ≤ id) ∧ PRel G Wr g T lk w p B u')

def resVal (tmps : Array Value) : ResultVar → Sem Value
  | .tmp t => pure (tmps.getD t undef)
  | .cell a t => do loadVar t (← asAddr (tmps.getD a undef))

variable {g : Gh} {st : St} {a : Act} {w : World}

theorem resultOf_rel (tie : Ties G P) (h : Inv G Wr g st a.tmps w) {rv : ResultVar} {A : AV} (hr : resultOf G base st rv = some A) : ∃ u, (resVal a.tmps rv).run P w = .ok u w ∧ (isView A = false → A ≠ .junk → RR G Wr base g st.ent st.lk w A u) := by
  cases rv with
  | tmp t =>
    simp only [resultOf] at hr
    split at hr
    · cases hr
    · rename_i hj
      simp only [Option.some.injEq] at hr; subst hr
      obtain ⟨v, h1, h2⟩ := h.slots t _ rfl (fun hq => hj hq)
      refine ⟨v, by simp [resVal, h1], fun hv _ => .inl ⟨.slot t, by simp, ?_⟩⟩
      simpa only [SRel, hv, Bool.false_eq_true, if_false] using h2
  | cell s T =>
    simp only [resultOf] at hr
    split at hr
    · rename_i id n agg hs hn ha
      have hcs := cond_some hr
      clear hr
      obtain ⟨hb, hr⟩ := hcs
      simp only [ble_dec, decide_eq_true_eq] at hb
      split at hr
      · rename_i cs he
        have hcs := cond_some hr
        clear hr
        obtain ⟨hl, hr⟩ := hcs
        simp only [beq_dec, decide_eq_true_eq] at hl
        obtain ⟨v, h1, h2⟩ := h.slots s _ hs (by simp)
        simp only [SRel, isView, Bool.false_eq_true, if_false, PRel, VRel] at h2
        obtain ⟨rfl, _⟩ := h2
        obtain ⟨cur, ty, hw, hcz⟩ := h.heap.box id cs he
        have hcell : ∀ (j : Nat) B, cs[j]? = some B → B ≠ .junk → ∃ u', cur.toList[j]? = some u' ∧ PRel G Wr g st.ent st.lk w (.cell id j) B u' := by
          intro j B hB hj
          obtain ⟨u', k1, k2⟩ := h.heap.cells id j B (by rw [he]; simp [cellOf, hB]) hj
          exact ⟨u', by simp only [cellVal, hw] at k1; simpa using k1, k2⟩
        have hget : ∀ (j : Nat) u', cur.toList[j]? = some u' → w.cell? ((⟨g.θ id, 0, none⟩ : Addr).add j) = some u' := by
          intro j u' hj
          rw [cell?_add, Nat.zero_add]
          simp only [World.cell?, hw]
          simpa using hj
        have hload : ∀ {v : Value}, joinV agg cur.toList = some v → (resVal a.tmps (.cell s T)).run P w = .ok v w := by
          intro v hv
          have := run_loadAt tie hn ha w ⟨g.θ id, 0, none⟩ (us := cur.toList) (by simp; omega) hget hv
          simp only [Instr.loadAt, Instr.sureAddr, Sem.run_bind, Sem.run_pure, Result.andThen_ok] at this
          simp [resVal, h1, asAddr, this]
        cases agg with
        | true =>
          simp only [AV.join, Option.some.injEq] at hr; subst hr
          refine ⟨_, hload rfl, fun _ _ => .inr ⟨cs, _, rfl, rfl, by simp; omega, fun j B hB hj => ?_⟩⟩
          obtain ⟨u', k1, k2⟩ := hcell j B hB hj
          exact ⟨u', .cell id j, by simpa using k1, fun id' c hq => by simp only [Org.cell.injEq] at hq; rw [← hq.1]; exact hb, k2⟩
        | false =>
          match cs, hr with
          | [c], hr =>
            simp only [AV.join, Option.some.injEq] at hr; subst hr
            have hc1 : cur.toList.length = 1 := by simp only [Array.length_toList]; simpa using hcz
            obtain ⟨u0, hu0⟩ : ∃ u0, cur.toList = [u0] := by
              match hq : cur.toList, hc1 with
              | [u0], _ => exact ⟨u0, rfl⟩
            refine ⟨u0, hload (by rw [hu0]; rfl), fun hv hj => ?_⟩
            · obtain ⟨u', k1, k2⟩ := hcell 0 c rfl hj
              rw [hu0] at k1
              simp at k1; subst k1
              exact .inl ⟨.cell id 0, fun id' c' hq => by simp only [Org.cell.injEq] at hq; rw [← hq.1]; exact hb, k2⟩
      · cases hr
    · cases hr

theorem resultsL_rel (tie : Ties G P) (h : Inv G Wr g st a.tmps w) : ∀ {rs : List ResultVar} {vs : List AV}, resultsL G base st rs = some vs → ∃ us, (rs.mapM (resVal a.tmps)).run P w = .ok us w ∧ us.length = vs.length ∧
    ∀ (j : Nat) A, vs[j]? = some A → ∃ u, us[j]? = some u ∧ (isView A = false → A ≠ .junk → RR G Wr base g st.ent st.lk w A u)
  | [], vs, hr => by
    simp only [resultsL, Option.some.injEq] at hr; subst hr
    exact ⟨[], by simp, rfl, by simp⟩
  | r :: rs, vs, hr => by
    simp only [resultsL] at hr
    split at hr
    · rename_i A l h1 h2
      simp only [Option.some.injEq] at hr; subst hr
      obtain ⟨u, k1, k2⟩ := resultOf_rel tie h h1
      obtain ⟨us, m1, m2, m3⟩ := resultsL_rel tie h h2
      refine ⟨u :: us, by simp [List.mapM_cons, k1, m1], by simp [m2], fun j B hj => ?_⟩
      cases j with
      | zero => simp at hj; subst hj; exact ⟨u, rfl, k2⟩
      | succ j => simpa using m3 j B (by simpa using hj)
    · cases hr

theorem freeze_noview {T : Nat → Option Ent} {n : Nat} {A : AV} {d : DV} (h : freeze T base n A = some d) : isView A = false ∧ A ≠ .junk := by
  cases n with
  | zero => simp [freeze] at h
  | succ n =>
    cases A with
    | vw o k => simp [freeze] at h
    | vp o j off => simp [freeze] at h
    | junk => simp [freeze] at h
    | _ => exact ⟨rfl, by simp⟩

theorem freeze_RR {T : Nat → Option Ent} {lk : List Nat} (h : Heap G Wr g T lk w) {S : Nat → Prop} (hS1 : ∀ id, base ≤ id → T id ≠ none → S (g.θ id))
    (hS2 : ∀ p e xs b n cap, (∀ id c, p = .cell id c → base ≤ id) → OwnRel G Wr g T lk w p e xs (.slice (some ⟨b, 0, none⟩) n cap) → S b) {n : Nat} {A : AV} {d : DV} {u : Value} (hf : freeze T base n A = some d) (hr : RR G Wr base g T lk w A u) : Rep (g.F.more w S) d u := by
  rcases hr with ⟨p, h1, h2⟩ | ⟨cs, us, rfl, rfl, hl, hc⟩
  · exact freeze_rep h hS1 hS2 n A d u p hf h1 h2
  · cases n with
    | zero => simp [freeze] at hf
    | succ n =>
      simp only [freeze] at hf
      split at hf
      · rename_i l hl2
        simp only [Option.some.injEq] at hf; subst hf
        simp only [Rep]
        exact ⟨us, rfl, freezes_rep h hS1 hS2 hl2 hl hc⟩
      · cases hf

mutual
theorem vrel_ids {F : Fz} {θ : Nat → Nat} {T : Nat → Option Ent} : ∀ (A : AV) (v : Value), VRel F θ T A v → ∀ i ∈ A.ids, T i ≠ none
  | .dv d, v, _, i, hi => by simp [AV.ids] at hi
  | .ptr id off, v, h, i, hi => by
    simp only [VRel] at h
    simp [AV.ids] at hi
    subst hi
    intro hn; rw [hn] at h; cases h.2
  | .map id, v, h, i, hi => by
    simp only [VRel] at h
    simp [AV.ids] at hi
    subst hi
    intro hn; rw [hn] at h; cases h.2
  | .nils _, v, _, i, hi => by simp [AV.ids] at hi
  | .agg cs, v, h, i, hi => by
    simp only [VRel] at h
    obtain ⟨us, _, hc⟩ := h
    exact vrelL_ids cs _ hc i (by simpa only [AV.ids] using hi)
  | .ifc t a, v, h, i, hi => by
    simp only [VRel] at h
    obtain ⟨u, _, hc⟩ := h
    exact vrel_ids a u hc i (by simpa only [AV.ids] using hi)
  | .fn f cs, v, h, i, hi => by
    simp only [VRel] at h
    obtain ⟨us, _, hc⟩ := h
    exact vrelL_ids cs _ hc i (by simpa only [AV.ids] using hi)
  | .tup cs, v, h, i, hi => by
    simp only [VRel] at h
    obtain ⟨us, _, hc⟩ := h
    exact vrelL_ids cs _ hc i (by simpa only [AV.ids] using hi)
  | .own _ _, v, _, i, hi => by simp [AV.ids] at hi
  | .vw _ _, v, h, i, hi => by simp only [VRel] at h
  | .vp _ _ _, v, h, i, hi => by simp only [VRel] at h
  | .undf, v, _, i, hi => by simp [AV.ids] at hi
  | .junk, v, h, i, hi => by simp only [VRel] at h
theorem vrelL_ids {F : Fz} {θ : Nat → Nat} {T : Nat → Option Ent} : ∀ (A : List AV) (v : List Value), VRelL F θ T A v → ∀ i ∈ AV.idss A, T i ≠ none
  | [], l, _, i, hi => by simp [AV.idss] at hi
  | a :: r, l, h, i, hi => by
    simp only [VRelL] at h
    obtain ⟨v, l', _, hd, hr⟩ := h
    simp only [AV.idss, List.mem_append] at hi
    rcases hi with hi | hi
    · exact vrel_ids a v hd i hi
    · exact vrelL_ids r l' hr i hi
end
theorem prel_ids {T : Nat → Option Ent} {lk : List Nat} {p : Org} {A : AV} {v : Value} (h : PRel G Wr g T lk w p A v) : ∀ i ∈ A.ids, T i ≠ none := by
  cases A with
  | own e xs => intro i hi; simp [AV.ids] at hi
  | _ => exact vrel_ids (F := g.F) (θ := g.θ) (T := T) _ v h

theorem find_oldTb (base : Nat) (i : Nat) : ∀ tb : List (Nat × Ent), find i (oldTb base tb) = if i < base then find i tb else none
  | [] => by simp [oldTb, find]
  | (k, e) :: r => by
    simp only [oldTb, blt_dec]
    by_cases hk : k < base
    · simp only [hk, decide_true, cond_true, find_cons]
      by_cases hki : k = i
      · subst hki; simp [hk]
      · simp only [hki, if_false]; exact find_oldTb base i r
    · simp only [hk, decide_false, cond_false, find_cons]
      by_cases hki : k = i
      · subst hki
        rw [find_oldTb base k r]; simp [hk]
      · simp only [hki, if_false]; exact find_oldTb base i r

/-- What stays behind a call: the boxes that were. -/
theorem old_heap (h : Heap G Wr g st.ent st.lk w) (hb : below base (tbIds (oldTb base st.tb)) = true) : Heap G Wr g (fun i => find i (oldTb base st.tb)) st.lk w := by
  have hT : ∀ i e, find i (oldTb base st.tb) = some e → i < base ∧ st.ent i = some e := by
    intro i e hi
    rw [find_oldTb] at hi
    split at hi
    · rename_i hlt; exact ⟨hlt, hi⟩
    · cases hi
  refine h.sub (fun i e hi => (hT i e hi).2) ?_ ?_ h.big ?_
  · intro i c A hA hj j hjm
    cases he : find i (oldTb base st.tb) with
    | none => simp only [he] at hA; exact absurd hA.symm hj
    | some e =>
      simp only [he] at hA
      have hlt : j < base := below_spec hb j ((has_iff _ _).2 (tbIds_mem (find_mem he) j (cellOf_ids hA hj j hjm)))
      have hcell : cellOf (st.ent i) c = A := by rw [(hT i e he).2]; exact hA
      obtain ⟨u, _, k2⟩ := h.cells i c A hcell hj
      rw [find_oldTb, if_pos hlt]
      exact prel_ids k2 j hjm
  · intro i hi hl
    cases he : find i (oldTb base st.tb) with
    | none => exact absurd he hi
    | some e => exact h.wr i (by rw [(hT i e he).2]; simp) hl
  · intro i c e xs n cap b hl hi hc hv
    cases he : find i (oldTb base st.tb) with
    | none => exact absurd he hi
    | some en =>
      simp only [he] at hc
      exact (HWr.cell h (by rw [(hT i en he).2]; exact hc) hv).2.2.2.1 hl

end
end Go.Abs
end

section
namespace Go.Abs

section
variable {G : Ctx} {Wr : Nat → Prop} {P : Program} {Gl : Fz → Prop} {base : Nat}
variable {g : Gh} {st : St} {a : Act} {w : World}

/-- What is frozen at the end of a call: all that was made in it. -/
def newS (G : Ctx) (Wr : Nat → Prop) (base : Nat) (g : Gh) (T : Nat → Option Ent) (lk : List Nat) (w : World) (b : Nat) : Prop :=
  (∃ id, base ≤ id ∧ T id ≠ none ∧ g.θ id = b) ∨ (∃ p e xs n cap, (∀ id c, p = Org.cell id c → base ≤ id) ∧ OwnRel G Wr g T lk w p e xs (.slice (some ⟨b, 0, none⟩) n cap))

theorem newS_wr {T : Nat → Option Ent} {lk : List Nat} (h : Heap G Wr g T lk w) (hlk : ∀ i, has i lk = true → i < base) {b : Nat} (hb : newS G Wr base g T lk w b) : Wr b := by
  have hno : ∀ id, base ≤ id → has id lk = false := by
    intro id hid
    cases hq : has id lk with
    | false => rfl
    | true => have := hlk id hq; omega
  rcases hb with ⟨id, h1, h2, rfl⟩ | ⟨p, e, xs, n, cap, h1, h2⟩
  · exact h.wr id h2 (hno id h1)
  · refine h2.block.2.2.2.1 ?_
    cases p with
    | slot n => rfl
    | cell id c => exact hno id (h1 id c rfl)

/-- All that was made is frozen: what was stays. -/
theorem old_more {T' : Nat → Option Ent} {lk : List Nat} (h : Heap G Wr g st.ent lk w) (hT : ∀ i e, T' i = some e → i < base ∧ st.ent i = some e) (h' : Heap G Wr g T' lk w) : Heap G Wr { g with F := g.F.more w (newS G Wr base g st.ent lk w) } T' lk w := by
  have hle := Fz.le_more h.ok (newS G Wr base g st.ent lk w)
  have hT' : ∀ i, T' i ≠ none → i < base ∧ st.ent i ≠ none := by
    intro i hi
    cases he : T' i with
    | none => exact absurd he hi
    | some e => exact ⟨(hT i e he).1, by rw [(hT i e he).2]; simp⟩
  have hfree : ∀ b, ¬ newS G Wr base g st.ent lk w b → g.F.free b → (g.F.more w (newS G Wr base g st.ent lk w)).free b := fun b hn hf => by
    obtain ⟨k1, k2⟩ := Fz.more_out (F := g.F) (w := w) hn
    exact ⟨fun i => by rw [k1]; exact hf.cell i, by rw [k2]; exact hf.map⟩
  refine { ok := h.ok.more _, box := h'.box, map := h'.map, inj := h'.inj, free := fun i hi => hfree _ ?_ (h'.free i hi), wr := h'.wr, big := h'.big, cells := fun id c A hA hj => ?_ }
  · obtain ⟨h1, h2⟩ := hT' i hi
    rintro (⟨id, k1, k2, k3⟩ | ⟨p, e, xs, n, cap, k1, k2⟩)
    · have := h.inj id i k2 h2 k3
      omega
    · exact k2.block.2.2.1 i h2 rfl
  · obtain ⟨u, k1, k2⟩ := h'.cells id c A hA hj
    have hid : T' id ≠ none := by intro hn; rw [hn] at hA; exact hj hA.symm
    refine ⟨u, k1, ?_⟩
    cases A with
    | own e xs =>
      have hcell : cellOf (st.ent id) c = .own e xs := by
        cases he : T' id with
        | none => exact absurd he hid
        | some en => rw [he] at hA; rw [(hT id en he).2]; exact hA
      simp only [PRel] at k2 ⊢
      rcases k2 with k2 | ⟨b, cap, cur, ty, size, h1, h2, h3, h4, h5, h6, h7, h8, h9, h10, h11, h12⟩
      · exact .inl k2
      · obtain ⟨_, _, m3, _, _⟩ := HWr.cell h hcell (by rw [k1, h3])
        refine .inr ⟨b, cap, cur, ty, size, h1, h2, h3, h4, h5, h6, h7, h8.mono hle, h9, hfree b ?_ h10, h11, h12⟩
        rintro (⟨i, q1, q2, q3⟩ | ⟨p, e', xs', n, cap', q1, q2⟩)
        · exact m3 i q2 q3
        · have := q2.block.1
          rw [h9] at this
          have := q1 id c (Option.some.inj this).symm
          have := (hT' id hid).1
          omega
    | vw o k => exact absurd k2.notView (by simp [isView])
    | vp o j off => exact absurd k2.notView (by simp [isView])
    | _ => exact VRel.mono (F' := g.F.more w (newS G Wr base g st.ent lk w)) hle (.refl _ _) _ _ k2

/-- The list that is handed back is in hand. -/
theorem old_own {T' : Nat → Option Ent} {lk : List Nat} {p : Org} {b : Nat} (how : g.ow b = some p) (hp : ∀ id c, p = .cell id c → T' id = none) (h' : Heap G Wr g T' lk w) : Heap G Wr (g.row (.slot 0) b) T' lk w := by
  refine { ok := h'.ok, box := h'.box, map := h'.map, inj := h'.inj, free := h'.free, wr := h'.wr, big := h'.big, cells := fun id c A hA hj => ?_ }
  obtain ⟨u, k1, k2⟩ := h'.cells id c A hA hj
  refine ⟨u, k1, PRel.mono k2 (.refl _) (.refl _ _) ?_⟩
  intro e xs _ b' h3 h4 h5 h6
  refine ⟨rfl, ?_, h4, h5⟩
  simp only [Gh.row]
  rw [if_neg]
  · exact h3
  · rintro rfl
    rw [how] at h3
    have hp' := hp id c (Option.some.inj h3)
    rw [hp'] at hA
    exact hj hA.symm

def tupOf : List Value → Value
  | [u] => u
  | us => .tuple us.toArray
theorem tupOf_ne : ∀ {us : List Value}, us.length ≠ 1 → tupOf us = .tuple us.toArray
  | [], _ => rfl
  | [u], h => by simp at h
  | u :: v :: r, _ => rfl

theorem results_run {fn : Func} {tmps : Array Value} {us : List Value} (h : (fn.results.toList.mapM (resVal tmps)).run P w = .ok us w) : (results fn tmps).run P w = .ok (tupOf us) w := by
  have hm : (fn.results.mapM (resVal tmps)).run P w = .ok us.toArray w := by
    rw [Array.mapM_eq_mapM_toList]
    simp [h]
  have : results fn tmps = (do let vs ← fn.results.mapM (resVal tmps); pure (if h : vs.size = 1 then vs[0] else .tuple vs)) := by
    rfl
  rw [this]
  simp only [Sem.run_bind, hm, Result.andThen_ok, Sem.run_pure]
  match us with
  | [] => rfl
  | [u] => rfl
  | u :: v :: r => simp [tupOf]

/-- What is read of a function's arguments at its beginning. -/
theorem find_argSl (t : Nat) : ∀ (i : Nat) (vs : List AV), find t (argSl i vs) = if t < i then none else vs[t - i]?
  | i, [] => by simp [argSl, find]
  | i, v :: r => by
    simp only [argSl, find_cons, find_argSl t (i + 1) r]
    by_cases h : i = t
    · subst h; simp
    · simp only [h, if_false]
      by_cases h2 : t < i
      · simp [h2, Nat.lt_succ_of_lt h2]
      · have h3 : ¬ t < i + 1 := by omega
        simp only [h2, h3, if_false]
        have : t - i = (t - (i + 1)) + 1 := by omega
        rw [this]; simp

theorem runOps_lk {call : CallF} {nt : Nat} {kept : List Nat} {ops : List Oper} : ∀ {l : List Oper} {st st' : St}, runOps G call base nt kept ops l st = some st' → st'.lk = st.lk
  | [], st, st', h => by simp only [runOps, Option.some.injEq] at h; subst h; rfl
  | o :: r, st, st', h => by
    simp only [runOps] at h
    split at h
    · rw [runOps_lk h, lk_put]
    · cases h
theorem runFeet_lk {call : CallF} {nt : Nat} {kept : List Nat} {ops : List Oper} : ∀ {l : List Oper} {st st' : St} {fs Ws}, runFeet G call base nt kept ops l st = some (st', fs, Ws) → st'.lk = st.lk
  | [], st, st', fs, Ws, h => by simp only [runFeet, Option.some.injEq, Prod.mk.injEq] at h; obtain ⟨rfl, _, _⟩ := h; rfl
  | o :: r, st, st', fs, Ws, h => by
    simp only [runFeet] at h
    split at h
    · split at h
      · rename_i h2
        simp only [Option.some.injEq, Prod.mk.injEq] at h
        obtain ⟨rfl, _, _⟩ := h
        rw [runFeet_lk h2, lk_put]
      · cases h
    · cases h
theorem clear_lk {kept : List Nat} {st st' : St} (h : clear base kept st = some st') : st'.lk = st.lk := by
  unfold clear at h
  split at h
  · split at h
    · obtain ⟨_, h⟩ := cond_some h
      simp only [Option.some.injEq] at h; subst h; rfl
    · dsimp only at h
      obtain ⟨_, h⟩ := cond_some h
      simp only [Option.some.injEq] at h; subst h; rfl
  · cases h
theorem region_lk {call : CallF} {nt : Nat} {kept : List Nat} {ops : List Oper} {draw : Bool} {st st' : St} (h : region G call base nt kept ops draw st = some st') : st'.lk = st.lk := by
  unfold region at h
  cases draw with
  | false =>
    simp only at h
    split at h
    · rename_i h1; rw [clear_lk h, runOps_lk h1]
    · cases h
  | true =>
    simp only at h
    split at h
    · rename_i h1
      obtain ⟨_, h⟩ := cond_some h
      rw [clear_lk h, runFeet_lk h1]
    · cases h
theorem loopN_lk {B : St → Option (EX × St)} (hB : ∀ st e st', B st = some (e, st') → st'.lk = st.lk) : ∀ (k : Nat) {st : St} {e st'}, loopN B k st = some (e, st') → st'.lk = st.lk
  | 0, st, e, st', h => by simp [loopN] at h
  | k + 1, st, e, st', h => by
    simp only [loopN] at h
    split at h
    · rename_i st1 h1; rw [loopN_lk hB k h, hB _ _ _ h1]
    · rename_i e1 st1 _ h1
      simp only [Option.some.injEq, Prod.mk.injEq] at h
      obtain ⟨rfl, rfl⟩ := h
      exact hB _ _ _ h1
    · cases h
theorem exec_lk {call : CallF} {nt : Nat} {keptF : Nat → List Nat} (k : Nat) : ∀ (c : Code) {st : St} {e st'}, exec G call base nt keptF k c st = some (e, st') → st'.lk = st.lk
  | .skip, st, e, st', h => by simp only [exec, Option.some.injEq, Prod.mk.injEq] at h; obtain ⟨_, rfl⟩ := h; rfl
  | .region id ops draw, st, e, st', h => by
    simp only [exec] at h
    split at h
    · rename_i st1 hr
      simp only [Option.some.injEq, Prod.mk.injEq] at h
      obtain ⟨_, rfl⟩ := h
      exact region_lk hr
    · cases h
  | .seq x y, st, e, st', h => by
    simp only [exec] at h
    split at h
    · rename_i st1 h1; rw [exec_lk k y h, exec_lk k x h1]
    · rename_i e1 st1 _ h1
      simp only [Option.some.injEq, Prod.mk.injEq] at h
      obtain ⟨rfl, rfl⟩ := h
      exact exec_lk k x h1
    · cases h
  | .cond c x y, st, e, st', h => by
    simp only [exec] at h
    split at h
    · exact exec_lk k x h
    · exact exec_lk k y h
    · cases h
  | .block id c, st, e, st', h => by
    simp only [exec] at h
    split at h
    · rename_i h1
      simp only [Option.some.injEq, Prod.mk.injEq] at h
      obtain ⟨_, rfl⟩ := h
      exact exec_lk k c h1
    · exact exec_lk k c h
  | .loop c, st, e, st', h => by
    simp only [exec] at h
    exact loopN_lk (fun st e st' h1 => exec_lk k c h1) k h
  | .exit id, st, e, st', h => by simp only [exec, Option.some.injEq, Prod.mk.injEq] at h; obtain ⟨_, rfl⟩ := h; rfl
  | .ret, st, e, st', h => by simp only [exec, Option.some.injEq, Prod.mk.injEq] at h; obtain ⟨_, rfl⟩ := h; rfl
  | .rangeFunc _ _ _ _, st, e, st', h => by simp [exec] at h
  | .scope _, st, e, st', h => by simp [exec] at h
  | .label _, st, e, st', h => by simp [exec] at h
  | .goto _, st, e, st', h => by simp [exec] at h
  | .refuse _, st, e, st', h => by simp [exec] at h

/-- The results, what stays of memory. -/
theorem results_good (tie : Ties G P) {fn : Func} {g1 : Gh} {st' : St} {a1 : Act} {w1 : World} (h : Inv G Wr g1 st' a1.tmps w1) (hlk : ∀ i, has i st'.lk = true → i < base) (hbel : below base (tbIds (oldTb base st'.tb)) = true) {r : AV} (hr : resultsOf G base st' fn.results.toList = some r) :
    ∃ v g2, (results fn a1.tmps).run P w1 = .ok v w1 ∧ Chg Wr base g1 w1 g2 w1 ∧ Heap G Wr g2 (fun i => find i (oldTb base st'.tb)) st'.lk w1 ∧ PRel G Wr g2 (fun i => find i (oldTb base st'.tb)) st'.lk w1 (.slot 0) r v := by
  have hold := old_heap h.heap hbel
  have hT : ∀ i e, find i (oldTb base st'.tb) = some e → i < base ∧ st'.ent i = some e := by
    intro i e hi
    rw [find_oldTb] at hi
    split at hi
    · rename_i hlt; exact ⟨hlt, hi⟩
    · cases hi
  have hmore := old_more (base := base) h.heap hT hold
  have hchg : Chg Wr base g1 w1 { g1 with F := g1.F.more w1 (newS G Wr base g1 st'.ent st'.lk w1) } w1 :=
    ⟨Fz.le_more h.heap.ok _, fun b hb => Fz.more_out fun hS => hb (newS_wr h.heap hlk hS), fun _ _ => rfl, fun _ _ => rfl, fun _ _ => rfl, Nat.le_refl _, rfl, rfl, rfl⟩
  have hS1 : ∀ id, base ≤ id → st'.ent id ≠ none → newS G Wr base g1 st'.ent st'.lk w1 (g1.θ id) := fun id h1 h2 => .inl ⟨id, h1, h2, rfl⟩
  have hS2 : ∀ p e xs b n cap, (∀ id c, p = .cell id c → base ≤ id) → OwnRel G Wr g1 st'.ent st'.lk w1 p e xs (.slice (some ⟨b, 0, none⟩) n cap) → newS G Wr base g1 st'.ent st'.lk w1 b := fun p e xs b n cap h1 h2 => .inr ⟨p, e, xs, n, cap, h1, h2⟩
  unfold resultsOf at hr
  split at hr
  · rename_i e xs hl
    simp only [Option.some.injEq] at hr; subst hr
    obtain ⟨us, k1, k2, k3⟩ := resultsL_rel tie h hl
    obtain ⟨u, u1, u2⟩ := k3 0 _ rfl
    have hus : us = [u] := by
      match us, k2, u1 with
      | [x], _, u1 => simp at u1; rw [u1]
    subst hus
    have hrun := results_run k1
    rcases u2 rfl (by simp) with ⟨p, p1, p2⟩ | ⟨cs, us', hq, _⟩
    · simp only [PRel] at p2
      have hlp : lockedP st'.lk p = false := by
        cases p with
        | slot n => rfl
        | cell id c =>
          have := p1 id c rfl
          cases hq : has id st'.lk with
          | false => exact hq
          | true => have := hlk id hq; omega
      have hpn : ∀ id c, p = .cell id c → find id (oldTb base st'.tb) = none := by
        intro id c hq
        have := p1 id c hq
        rw [find_oldTb, if_neg (by omega)]
      rcases p2 with p2 | ⟨b, cap, cur, ty, size, h1, h2, h3, h4, h5, h6, h7, h8, h9, h10, h11, h12⟩
      · exact ⟨u, g1, hrun, .refl _ _ _ _, hold, .inl p2⟩
      · refine ⟨u, g1.row (.slot 0) b, hrun, ?_, old_own h9 hpn hold, .inr ⟨b, cap, cur, ty, size, h1, h2, h3, h4, h5, h6, h7, h8, by simp [Gh.row], h10, fun id hid => h11 id ?_, fun _ => h12 hlp⟩⟩
        · refine ⟨.refl _, fun _ _ => ⟨rfl, rfl⟩, fun b' hb' => ?_, fun _ _ => rfl, fun _ _ => rfl, Nat.le_refl _, rfl, rfl, rfl⟩
          simp only [Gh.row]
          rw [if_neg]
          rintro rfl; exact hb' (h12 hlp)
        · cases he : find id (oldTb base st'.tb) with
          | none => exact absurd he hid
          | some en => rw [(hT id en he).2]; simp
    · cases hq
  · rename_i v hno hl
    split at hr
    · rename_i d hd
      simp only [Option.some.injEq] at hr; subst hr
      obtain ⟨us, k1, k2, k3⟩ := resultsL_rel tie h hl
      obtain ⟨u, u1, u2⟩ := k3 0 _ rfl
      have hus : us = [u] := by
        match us, k2, u1 with
        | [x], _, u1 => simp at u1; rw [u1]
      subst hus
      obtain ⟨f1, f2⟩ := freeze_noview hd
      exact ⟨u, _, results_run k1, hchg, hmore, by simp only [PRel, VRel]; exact freeze_RR h.heap hS1 hS2 hd (u2 f1 f2)⟩
    · cases hr
  · rename_i vs hno1 hno2 hl
    split at hr
    · rename_i ds hd
      simp only [Option.some.injEq] at hr; subst hr
      obtain ⟨us, k1, k2, k3⟩ := resultsL_rel tie h hl
      have hrun := results_run k1
      obtain ⟨z1, z2⟩ := freezes_get 200 vs ds hd
      have hne : us.length ≠ 1 := by
        rw [k2]
        intro hq
        match vs, hq with
        | [x], _ => exact hno2 x rfl
      have hv := tupOf_ne hne
      rw [hv] at hrun
      refine ⟨_, _, hrun, hchg, hmore, ?_⟩
      simp only [PRel, VRel]
      refine ⟨_, rfl, repL_vrelL ?_⟩
      refine RepL_of (by simp [k2, z1]) fun j d hj => ?_
      have hjl : j < vs.length := by rw [← z1]; exact (List.getElem?_eq_some_iff.1 hj).1
      obtain ⟨m', d', q1, q2, q3⟩ := z2 j _ (List.getElem?_eq_getElem hjl)
      rw [hj] at q2
      simp only [Option.some.injEq] at q2; subst q2
      obtain ⟨u, u1, u2⟩ := k3 j _ (List.getElem?_eq_getElem hjl)
      obtain ⟨f1, f2⟩ := freeze_noview q3
      exact ⟨u, by simpa using u1, freeze_RR h.heap hS1 hS2 q3 (u2 f1 f2)⟩
    · cases hr
  · cases hr

theorem step_ok (pr : Prims G P Gl) (tie : Ties G P) (k : Nat) {call : CallF} (ih : CallsOK G P Gl call) : CallsOK G P Gl (callStep G k call) := by
    intro f args tb lk base r tb' h
    simp only [callStep] at h
    split at h
    · rename_i fn hfn
      split at h
      · rename_i body hbody
        have hcs := cond_some h
        clear h
        obtain ⟨hlen, h⟩ := hcs
        simp only [ble_dec, decide_eq_true_eq] at hlen
        refine ⟨⟨fn, tie.fn f fn hfn, tie.names f fn hfn, by rw [hbody]; rfl⟩, ?_⟩
        intro Wr g w vs hgl hheap hargs hid hlk
        have hal := hargs.length
        simp only [Array.length_toList] at hal
        apply calls_of_wp (tie.fn f fn hfn) hbody
        -- the beginning
        let st0 : St := { sl := argSl 0 args, tb := tb, lk := lk }
        have hinv : Inv G Wr g st0 (vs ++ Array.replicate (fn.ntmps - vs.size) undef) w := by
          refine { heap := hheap, slots := fun t A hA hj => ?_ }
          have hf : args[t]? = some A := by
            have : (match find t (argSl 0 args) with | some v => v | none => .junk) = A := hA
            rw [find_argSl] at this
            simp only [Nat.not_lt_zero, if_false, Nat.sub_zero] at this
            split at this
            · rename_i v hv; rw [hv, this]
            · exact absurd this.symm hj
          obtain ⟨v, k1, k2⟩ := ((VRelL_iff _ _).1 hargs).2 t A hf
          have htl : t < vs.size := by have := (List.getElem?_eq_some_iff.1 k1).1; simpa using this
          refine ⟨v, ?_, ?_⟩
          · rw [Array.getElem?_append_left htl]; simpa using k1
          · simp only [SRel, VRel.notView k2, Bool.false_eq_true, if_false]
            exact PRel.of_vrel k2
        have hsz : (vs ++ Array.replicate (fn.ntmps - vs.size) undef).size = fn.ntmps := by simp; omega
        split at h
        · cases h
        · rename_i e st' hne hex
          refine exec_good (a := { tmps := vs ++ Array.replicate (fn.ntmps - vs.size) undef, defers := [] }) ih pr tie k body hex hinv hgl hsz ?_
          intro g1 a1 w1 k1 k2 k3 k4
          -- the results
          split at h
          · rename_i r0 hr0
            have hcs := cond_some h
            clear h
            obtain ⟨hbel, h⟩ := hcs
            simp only [Option.some.injEq, Prod.mk.injEq] at h
            obtain ⟨rfl, rfl⟩ := h
            have hlk1 : st'.lk = lk := exec_lk k body hex
            obtain ⟨v, g2, m1, m2, m3, m4⟩ := results_good (base := base) tie k1 (by rw [hlk1]; exact hlk) hbel hr0
            rw [hlk1] at m3 m4
            have hpost : a1.defers = [] ∧ ∃ v, (results fn a1.tmps).run P w1 = .ok v w1 ∧ ∃ v', Ending.returned v = .returned v' ∧ ∃ g', Chg Wr base g w g' w1 ∧ Heap G Wr g' (fun i => find i (oldTb base st'.tb)) lk w1 ∧ PRel G Wr g' (fun i => find i (oldTb base st'.tb)) lk w1 (.slot 0) r0 v' :=
              ⟨k3, v, m1, v, rfl, g2, k2.trans m2, m3, m4⟩
            cases e with
            | norm => exact hpost
            | ret => exact hpost
            | exit i => exact (hne i rfl).elim
          · cases h
        · cases h
      · cases h
    · cases h

theorem orElse_ok {O call : CallF} (h1 : CallsOK G P Gl O) (h2 : CallsOK G P Gl call) : CallsOK G P Gl (orElse O call) := by
  intro f args tb lk base r tb' h
  simp only [orElse] at h
  split at h
  · rename_i r0 hr
    rw [h] at hr
    exact h1 _ _ _ _ _ _ _ hr
  · exact h2 _ _ _ _ _ _ _ h

theorem callN_ok (pr : Prims G P Gl) (tie : Ties G P) {O : CallF} (hO : CallsOK G P Gl O) : ∀ n, CallsOK G P Gl (callN G O n)
  | 0 => hO
  | n + 1 => orElse_ok hO (step_ok pr tie n (callN_ok pr tie hO n))

/-- No call known. -/
def noCalls : CallF := fun _ _ _ _ _ => none
theorem noCalls_ok : CallsOK G P Gl noCalls := by intro f args tb lk base r tb' h; simp [noCalls] at h

/-- A call of deep data that is known. -/
def known1 (f : FuncId) (p : List AV → Bool) (r : AV) : CallF := fun f' args tb lk base => match tb, lk, base with
  | [], [], 0 => bif Nat.beq f' f then bif p args then some (r, []) else none else none
  | _, _, _ => none
theorem known1_ok {f : FuncId} {p : List AV → Bool} {r : AV} {call : CallF} (hc : CallsOK G P Gl call) (h : ∀ args, p args = true → call f args [] [] 0 = some (r, [])) : CallsOK G P Gl (known1 f p r) := by
  intro f' args tb lk base r' tb' hk
  unfold known1 at hk
  split at hk
  · cases hf : Nat.beq f' f with
    | false => rw [hf] at hk; cases hk
    | true =>
      rw [hf] at hk
      rw [beq_dec] at hf
      have hff : f' = f := by simpa using hf
      subst hff
      simp only [cond_true] at hk
      obtain ⟨hp, hk⟩ := cond_some hk
      simp only [Option.some.injEq, Prod.mk.injEq] at hk
      obtain ⟨rfl, rfl⟩ := hk
      exact hc _ _ _ _ _ _ _ (h args hp)
  · cases hk

/-- The same, by a text. -/
def isText (s : ByteArray) : List AV → Bool
  | [.dv (.str t)] => eqB t s
  | _ => false
theorem isText_spec {s : ByteArray} {args : List AV} (h : isText s args = true) : args = [.dv (.str s)] := by
  unfold isText at h
  split at h
  · rw [eqB_iff] at h; rw [h]
  · cases h
def isNone : List AV → Bool
  | [] => true
  | _ => false
theorem isNone_spec {args : List AV} (h : isNone args = true) : args = [] := by
  unfold isNone at h
  split at h
  · rfl
  · cases h

end
end Go.Abs
end

section
namespace Go.Abs

/-- A program as the interpreter sees it. -/
def mkG (P : Program) (kept : FuncId → Nat → List Nat) (mode : FuncId → Nat) (asFn ixFn asT faultT : Nat) : Ctx :=
  { und := P.underlying, inf := fun t => match P.types[t]? with
      | some i => match i.zero with
        | some z => some (z, i.size, i.bytes)
        | none => none
      | none => none,
    fn := fun f => P.funcs[f]?, kept := kept, mode := mode, asFn := asFn, ixFn := ixFn, asT := asT, faultT := faultT }

theorem mkG_ties {P : Program} {kept : FuncId → Nat → List Nat} {mode : FuncId → Nat} {asFn ixFn asT faultT : Nat} (hn : (P.funcs.toList.all fun fn => !(fn.name == "runtime.NumGoroutine")) = true)
    (hz : (P.types.toList.all fun i => match i.zero with | some z => z.cells.size == i.size | none => true) = true) (hm : P.follows .mixedOrders = true) : Ties (mkG P kept mode asFn ixFn asT faultT) P where
  und := fun t d h => h
  inf := fun t z n b h => by
    simp only [mkG] at h
    have hinfo : ∀ i, P.types[t]? = some i → P.info? t = some i := by
      intro i hi
      have hlt : t < P.types.size := (Array.getElem?_eq_some_iff.1 hi).1
      simp only [Tables.info?, hlt, if_true]
      exact hi
    split at h
    · rename_i i hi
      split at h
      · rename_i z' hz'
        simp only [Option.some.injEq, Prod.mk.injEq] at h
        obtain ⟨rfl, rfl, rfl⟩ := h
        exact ⟨i, hinfo i hi, hz', rfl, rfl⟩
      · cases h
    · cases h
  zsz := fun t z n b h => by
    simp only [mkG] at h
    split at h
    · rename_i i hi
      split at h
      · rename_i z' hz'
        simp only [Option.some.injEq, Prod.mk.injEq] at h
        obtain ⟨rfl, rfl, rfl⟩ := h
        have hmem : i ∈ P.types.toList := Array.mem_toList_iff.2 (Array.mem_of_getElem? hi)
        have := List.all_eq_true.1 hz i hmem
        simpa [hz'] using this
      · cases h
    · cases h
  fn := fun f fn h => h
  names := fun f fn h => by
    have hmem : fn ∈ P.funcs.toList := Array.mem_toList_iff.2 (Array.mem_of_getElem? h)
    simpa using List.all_eq_true.1 hn fn hmem
  mixed := hm

end Go.Abs
end

section
namespace Go.Abs

theorem returnsInHanded_of_change_shaped_and {H : Type} {enc : TypeId × Value → H} {a : Assume} {C : Checked} {os : Os} {f : FuncId} {fn : Func} {s : ChangeSpec} {conds : List PathCond} {apart fresh handsOn again : Bool} {X : World → Array Value → Prop}
    (hX : ∀ (w w' : World) (args : Array Value), w.heap = w'.heap → X w args → X w' args)
    (own : ownKnob C.prog.godebug = none) (started : os.Started) (noInit : C.prog.inits.idxOf? f = none) (hfn : C.prog.funcs[f]? = some fn)
    (witness : ∃ (w : World) (tape : Tape) (i : Input), w.os = os ∧ (w.forCall tape i).Shaped C.prog ∧ i.vars = [] ∧ Input.okWide C.prog (w.forCall tape i) .any w.heap.size f i ∧
      ((s.pre enc C.prog fn conds apart (w.forCall tape i).memory i.args ∧ X (w.forCall tape i).memory i.args) ∧ sizedMet enc C.prog fn (OpenSpec.ofChange s) apart (w.forCall tape i).memory i.args) ∧ a.holds C.prog (lone (Frame.enter C.prog f i.args .normal) [] (w.forCall tape i)))
    (contract : ∀ (W : World) (base : Nat) (args : Array Value) (ds gs : List (DataW H)) (before : List MemPlace),
      (∀ (j : Nat) t v, fn.params[j]? = some t → args[j]? = some v → Value.okWide C.prog W .any base t v) →
      DataW.Whole enc C.prog fn.params.toList s.vars apart W args.toList ds gs before →
      conds.all (PathCond.test C.prog ⟨fn.params.toList, ds, s.plain.varTypes C.prog, gs⟩) = true →
      (DataW.weightsEach C.prog (fn.params.toList ++ s.plain.varTypes C.prog) (ds ++ gs)).all (· ≤ reachBytes) = true → X W args → W.ShapedOpen C.prog →
      a.holds C.prog (lone (Frame.enter C.prog f args .normal) [] W) →
      Calls C.prog f args W fun e W' => ∃ v, e = .returned v ∧ s.post enc C.prog fn apart fresh handsOn again W args v W') :
    ReturnsInHanded a C os f .any (fun w args => (s.pre enc C.prog fn conds apart w args ∧ X w args) ∧ sizedMet enc C.prog fn (OpenSpec.ofChange s) apart w args) (s.post enc C.prog fn apart fresh handsOn again) := by
  refine returnsInHanded_of_calls own started noInit witness ?_
  intro w tape i _ hsh _ hok hpre hholds
  obtain ⟨_, _, _, fn', hfn', _, _, _, _, hval⟩ := hok
  have e : fn' = fn := Option.some.inj (hfn'.symm.trans hfn)
  subst e
  obtain ⟨⟨⟨ds, gs, before, hw, hc⟩, hx⟩, hz⟩ := hpre
  have hw' := DataW.Whole.of_heap (w' := w.forCall tape i) (by rfl) hw
  refine (contract (w.forCall tape i) w.heap.size i.args ds gs before hval hw' hc (hz.weights hw) (hX _ _ _ (by rfl) hx) hsh hholds).mono fun e W' ⟨v, he, hp⟩ => ?_
  subst he
  exact ChangeSpec.post_blind hp

/-- What was there reads as it did. -/
theorem chg_keptBut {base : Nat} {g g' : Gh} {w w' : World} (h : Chg (freshWr w) base g w g' w') (may : MemPlace → Prop) : w.keptBut w' may := by
  refine ⟨h.os, h.output, fun i hi => ?_⟩
  rw [h.old i hi]
  cases ho : w.heap[i]? with
  | none => rfl
  | some o => cases o <;> simp

/-- A call of deep data, from outside. -/
theorem call_deep {G : Ctx} {P : Program} {Gl : Fz → Prop} {call : CallF} (hc : CallsOK G P Gl call) {f : FuncId} {ds : List DV} {r : DV} {tb : List (Nat × Ent)} (hr : call f (ds.map .dv) [] [] 0 = some (.dv r, tb)) {F : Fz} {w : World} (hok : F.ok w) (hg : Gl F) {vs : Array Value} (hv : RepL F ds vs.toList) :
    Calls P f vs w fun e w' => ∃ v, e = .returned v ∧ ∃ g', Chg (freshWr w) 0 { F := F, θ := id, ow := fun _ => none } w g' w' ∧ g'.F.ok w' ∧ Rep g'.F r v := by
  obtain ⟨_, h⟩ := hc _ _ _ _ _ _ _ hr
  refine Calls.mono (h (freshWr w) { F := F, θ := id, ow := fun _ => none } w vs hg (heap_nil hok) (repL_vrelL hv) (fun i hi => by simp [find] at hi) (fun i hi => by simp [has] at hi)) ?_
  rintro e w' ⟨v, rfl, g', h1, h2, h3⟩
  exact ⟨v, rfl, g', h1, h2.ok, by simpa only [PRel, VRel] using h3⟩

end Go.Abs
end

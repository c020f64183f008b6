/-
  A part of the proof of the seat's statements: a functional interpreter of the translated code and the proof that each call of the machine does what it says; no condition.
-/
import Derived.Test.YtjgfjfdodekkpaaGreatDoorAbs2
set_option linter.all false

section
namespace Go.Abs

section
variable {G : Ctx} {Wr : Nat → Prop} {P : Program}
variable {g : Gh} {V : Vw} {st : St} {a : Act} {w : World} {base nt : Nat}

/-- A list that is looked at: its cells in memory. -/
theorem look_lst (hV : Shows V st) (h : Inv G Wr g st a.tmps w) {x : Operand} {ys : List DV} (hx : look V x = some (.lst ys)) :
    ∃ q cap, a.eval x = .slice q ys.length cap ∧ (ys = [] ∨ ∃ b o k, q = some ⟨b, o, none⟩ ∧ (∀ y ∈ ys, y.cells.length = k) ∧ Row g.F (flat ys) (fun j => w.cell? ⟨b, o + j, none⟩)) := by
  have hown : ∀ {p e xs u}, OwnRel G Wr g st.ent st.lk w p e xs u → ∃ q cap, u = .slice q xs.length cap ∧ (xs = [] ∨ ∃ b o k, q = some ⟨b, o, none⟩ ∧ (∀ y ∈ xs, y.cells.length = k) ∧ Row g.F (flat xs) (fun j => w.cell? ⟨b, o + j, none⟩)) := by
    intro p e xs u hu
    rcases hu with ⟨rfl, rfl⟩ | ⟨b2, cap2, cur, ty, size2, m1, m2, m3, m4, m5, m6, m7, m8, m9, m10, m11, m12⟩
    · exact ⟨none, 0, rfl, .inl rfl⟩
    · refine ⟨_, cap2, m3, .inr ⟨b2, 0, size2, rfl, m7, ?_⟩⟩
      intro i d hi
      obtain ⟨v, hv, hd⟩ := m8 i d hi
      exact ⟨v, by simp [World.cell?, m5]; simpa using hv, hd⟩
  have hrep : ∀ {xs u}, Rep g.F (.lst xs) u → ∃ q cap, u = .slice q xs.length cap ∧ (xs = [] ∨ ∃ b o k, q = some ⟨b, o, none⟩ ∧ (∀ y ∈ xs, y.cells.length = k) ∧ Row g.F (flat xs) (fun j => w.cell? ⟨b, o + j, none⟩)) := by
    intro xs u hu
    simp only [Rep] at hu
    obtain ⟨q, cap, hv, hn, hc⟩ := hu
    refine ⟨q, cap, hv, hc.imp id ?_⟩
    rintro ⟨b, o, k, ha, hk, he⟩
    exact ⟨b, o, k, ha, hk, ((RepElems_iff _ _ _ hk).1 he).ok h.heap.ok⟩
  have hcut : ∀ {xs : List DV} {q : Option Addr} {k : Nat}, k ≤ xs.length → (xs = [] ∨ ∃ b o k, q = some ⟨b, o, none⟩ ∧ (∀ y ∈ xs, y.cells.length = k) ∧ Row g.F (flat xs) (fun j => w.cell? ⟨b, o + j, none⟩)) →
      (xs.take k = [] ∨ ∃ b o k', q = some ⟨b, o, none⟩ ∧ (∀ y ∈ xs.take k, y.cells.length = k') ∧ Row g.F (flat (xs.take k)) (fun j => w.cell? ⟨b, o + j, none⟩)) := by
    intro xs q k hk hc
    rcases hc with rfl | ⟨b, o, k', h1, h2, h3⟩
    · left; simp
    · right
      refine ⟨b, o, k', h1, fun y hy => h2 y (List.mem_of_mem_take hy), ?_⟩
      have hsplit : flat xs = flat (xs.take k) ++ flat (xs.drop k) := by rw [← flat_append, List.take_append_drop]
      rw [hsplit, Row_append] at h3
      exact h3.1
  unfold look at hx
  split at hx
  · rename_i e xs hx'
    obtain ⟨t, rfl, ht, h1, h2⟩ := opnd_own hV h hx'
    simp only [Option.some.injEq, DV.lst.injEq] at hx; subst hx
    exact hown h2
  · rename_i o k hx'
    obtain ⟨t, rfl, ht, h1, h2⟩ := opnd_view hV h hx' rfl
    split at hx
    · rename_i l hs
      simp only [Option.some.injEq, DV.lst.injEq] at hx; subst hx
      simp only [ViewRel] at h2
      obtain ⟨xs, q, cap, k1, k2, k3, k4⟩ := h2
      have hl := see_view hV hs k1
      subst hl
      have hlk : (xs.take k).length = k := by simp [List.length_take, Nat.min_eq_left k4]
      rw [k3, hlk]
      have hpl : ∃ q' cap', Value.slice q xs.length cap = .slice q' xs.length cap' ∧ (xs = [] ∨ ∃ b o k, q' = some ⟨b, o, none⟩ ∧ (∀ y ∈ xs, y.cells.length = k) ∧ Row g.F (flat xs) (fun j => w.cell? ⟨b, o + j, none⟩)) := by
        rcases k1 with ⟨e, k1⟩ | k1
        · obtain ⟨u, m1, m2⟩ := h.place o _ k1 (by simp) rfl
          rw [k2] at m1
          simp only [Option.some.injEq] at m1; subst m1
          exact hown (by simpa only [PRel] using m2)
        · obtain ⟨u, m1, m2⟩ := h.place o _ k1 (by simp) rfl
          rw [k2] at m1
          simp only [Option.some.injEq] at m1; subst m1
          exact hrep (by simpa only [PRel, VRel] using m2)
      obtain ⟨q', cap', m1, m2⟩ := hpl
      simp only [Value.slice.injEq, true_and] at m1
      obtain ⟨rfl, rfl⟩ := m1
      exact ⟨q, cap, rfl, hcut k4 m2⟩
    · cases hx
  · rename_i A hno hnv hx'
    have hv : isView A = false := by cases A <;> simp_all [isView, AV.toDV]
    have hr := opnd_rel hV h hx' (fun e xs he => hno e xs (he ▸ rfl)) hv
    exact hrep (toDV_rep A _ _ hx hr)
  · cases hx

theorem headSize_all {n : Nat} {ys : List DV} (h : headSize n ys = true) {k : Nat} (hk : ∀ y ∈ ys, y.cells.length = k) (hne : ys ≠ []) : k = n := by
  cases ys with
  | nil => exact absurd rfl hne
  | cons y r =>
    simp only [headSize, beq_dec, decide_eq_true_eq] at h
    exact (hk y (by simp)).symm.trans h

theorem atomsE_spec : ∀ {l : List DV}, atomsE l = true → atomsD (flat l) = true
  | [], _ => rfl
  | v :: r, h => by
    unfold atomsE at h
    cases hv : atomsD v.cells with
    | false => rw [hv] at h; cases h
    | true =>
      rw [hv] at h
      have ih := atomsE_spec (l := r) h
      rw [flat_cons]
      clear h
      generalize v.cells = cs at hv
      induction cs with
      | nil => exact ih
      | cons c cs ihc =>
        simp only [atomsD, List.cons_append] at hv ⊢
        cases hc : c.atom with
        | false => rw [hc] at hv; cases hv
        | true => rw [hc] at hv; exact ihc hv

theorem run_append_none {t ty e : TypeId} (ht : P.underlying t = some (.slice e)) {i : TypeInfo} (hi : P.info? e = some i) (w : World) (q q' : Option Addr) (n cap c : Nat) (hn : n ≤ cap) :
    (Builtin.append_ #[t, t] ty #[.slice q n cap, .slice q' 0 c]).run P w = .ok (.slice q n cap) w := by
  have hf : (Builtin.firstCells i.size 0 (.slice q' 0 c)).run P w = .ok #[] w := by
    cases q' with
    | none => simp [Builtin.firstCells]
    | some b => simp [Builtin.firstCells, loadCells, loadCellsFrom]
  cases q with
  | none => simp [Builtin.append_, run_underlying ht, sizeOf, typeInfo, hi, Builtin.lenOf, hn, hf]
  | some b => simp [Builtin.append_, run_underlying ht, sizeOf, typeInfo, hi, Builtin.lenOf, hn, hf, storeCells]

theorem run_append_room' (w : World) (t ty e ty' : TypeId) (i : TypeInfo) (ht : P.underlying t = some (.slice e)) (hi : P.info? e = some i)
    (g sLen sCap : Nat) (cur : Array Value) (hg : w.heap[g]? = some (.cells cur ty' (0, 0)))
    (a : Addr) (m c : Nat) (news : List Value) (hl : news.length = m * i.size) (hnews : ∀ j u, news[j]? = some u → w.cell? (a.add j) = some u) (h1 : ∀ u ∈ news, u.oneCell' = true)
    (hroom : sLen + m ≤ sCap) (hfit : sLen * i.size + news.length ≤ cur.size) :
    (Builtin.append_ #[t, t] ty #[.slice (some ⟨g, 0, none⟩) sLen sCap, .slice (some a) m c]).run P w =
      .ok (.slice (some ⟨g, 0, none⟩) (sLen + m) sCap) (w.setRow g (cur.toList.take (sLen * i.size) ++ news ++ cur.toList.drop (sLen * i.size + news.length)).toArray) := by
  have hf := run_firstCells_some (P := P) w i.size m a m c news hl hnews
  have hst := run_storeCells_at P g (sLen * i.size) ty' news 0 cur w hg (by simpa using hfit) h1
  simp only [Nat.add_zero] at hst
  simp [Builtin.append_, run_underlying ht, sizeOf, typeInfo, hi, Builtin.lenOf, hroom, hf, Addr.add_lit, hst]

/-- What is in hand changes: a block that no place holds. -/
theorem Inv.hand {g : Gh} {st : St} {tmps : Array Value} {w w' : World} (h : Inv G Wr g st tmps w) {o : Org} (ho : st.all.at_ o = .junk) {b : Nat} (how : g.ow b = some o) (hfree : g.F.free b) (hne : ∀ id, st.ent id ≠ none → g.θ id ≠ b)
    (hother : ∀ b', b' ≠ b → w'.heap[b']? = w.heap[b']?) (hsz : w'.heap.size = w.heap.size) (p : Org) : Inv G Wr (g.row p b) st tmps w' := by
  have hb := h.heap.toBase
  have hbl : ∀ i, st.ent i ≠ none → w'.heap[g.θ i]? = w.heap[g.θ i]? := fun i hi => hother _ (hne i hi)
  have hpv : ∀ o, st.all.at_ o ≠ .junk → pval g.θ tmps w' o = pval g.θ tmps w o := by
    intro o ho
    cases o with
    | slot n => rfl
    | cell id c => simp only [pval, cellVal, hbl id (ent_of_at ho)]
  refine Inv.intro ?_ ?_ h.heap.noview ?_
  · refine { ok := ?_, box := ?_, map := ?_, inj := hb.inj, free := hb.free, wr := hb.wr, big := ?_ }
    · refine ⟨fun b' i v hv => ?_, fun b' es hv => ?_⟩
      · have hbne : b' ≠ b := by rintro rfl; rw [show (g.row p b').F = g.F from rfl, hfree.cell i] at hv; cases hv
        exact (World.cell?_of_block (a := ⟨b', i, none⟩) (hother b' hbne)).trans (hb.ok.cell b' i v hv)
      · have hbne : b' ≠ b := by rintro rfl; rw [show (g.row p b').F = g.F from rfl, hfree.map] at hv; cases hv
        obtain ⟨clock, h1⟩ := hb.ok.map b' es hv
        exact ⟨clock, (hother b' hbne).trans h1⟩
    · intro id cs he
      obtain ⟨cur, ty, k1, k2⟩ := hb.box id cs he
      exact ⟨cur, ty, (hbl id (by rw [he]; simp)).trans k1, k2⟩
    · intro id kv he
      obtain ⟨es, clock, k1, k2⟩ := hb.map id kv he
      exact ⟨es, clock, (hbl id (by rw [he]; simp)).trans k1, k2⟩
    · intro b' hbs
      rw [hsz] at hbs
      exact hb.big b' hbs
  · intro q A hA hj hv
    obtain ⟨u', k1, k2⟩ := h.place q A hA hj hv
    refine ⟨u', (hpv q (by rw [hA]; exact hj)).trans k1, ?_⟩
    refine PRel.mono k2 (.refl _) (.refl _ _) ?_
    intro _ _ _ b' h3 h4 h5 _
    have hbb : b' ≠ b := by
      rintro rfl
      rw [how] at h3
      have : o = q := Option.some.inj h3
      subst this
      rw [ho] at hA; exact hj hA.symm
    exact ⟨hother b' hbb, by simp only [Gh.row]; rw [if_neg hbb]; exact h3, h4, h5⟩
  · intro n A hA hv
    obtain ⟨v, k2, k3⟩ := h.view n A hA hv
    exact ⟨v, k2, viewRel_of k3 fun o' ho' => ⟨fun ys hy => hy, hpv o' (shown_junk (viewRel_shown k3 ho'))⟩⟩

theorem at_take1 {st : St} {o : Org} {e : TypeId} {xs : List DV} (ho : st.all.at_ o = .own e xs) : (st.take1 o).all.at_ o = .junk := by
  have hk : (St.all { st with sl := killIn (AV.views o) st.sl }).at_ o = st.all.at_ o := at_kill st (AV.views o) (fun A hA => views_isView hA) o (by rw [ho]; rfl)
  have := at_setPlace { st with sl := killIn (AV.views o) st.sl } .junk o o (by rw [hk, ho]; simp)
  simp only [if_true] at this
  exact this

theorem ent_take1 {st : St} {o : Org} (id : Nat) : (st.take1 o).ent id ≠ none ↔ st.ent id ≠ none := by
  unfold St.take1 St.kill1
  exact ent_setPlace_none _ _ _ _

theorem Row_cur {F : Fz} {xs : List DV} {us : List Value} {cur : Array Value} {n : Nat} (h : RepL F xs us) (hc : ∀ j u, us[j]? = some u → cur[n + j]? = some u) : Row F xs (fun j => cur[n + j]?) := by
  rw [RepL_iff] at h
  intro j d hj
  obtain ⟨v, k1, k2⟩ := h.2 j d hj
  exact ⟨v, hc j v k1, k2⟩

end
end Go.Abs
end

section
namespace Go.Abs

section
variable {G : Ctx} {Wr : Nat → Prop} {P : Program}
variable {g : Gh} {V : Vw} {st : St} {a : Act} {w : World} {base nt : Nat}

theorem RepL.append {F : Fz} {a b : List DV} {us vs : List Value} (h : RepL F a us) (k : RepL F b vs) : RepL F (a ++ b) (us ++ vs) := by
  rw [RepL_iff] at h k ⊢
  obtain ⟨h1, h2⟩ := h
  obtain ⟨k1, k2⟩ := k
  refine ⟨by simp [h1, k1], fun j d hj => ?_⟩
  simp only [List.getElem?_append, h1] at hj ⊢
  split at hj
  · rename_i hlt; rw [if_pos hlt]; exact h2 j d hj
  · rename_i hlt; rw [if_neg hlt]; exact k2 _ d hj

theorem RepL.rowApp {F : Fz} {l : List DV} {us : List Value} (h : RepL F l us) (z : Array Value) : Row F l (fun j => (us.toArray ++ z)[j]?) := by
  rw [RepL_iff] at h
  intro j d hj
  obtain ⟨v, k1, k2⟩ := h.2 j d hj
  refine ⟨v, ?_, k2⟩
  have hlt : j < us.length := (List.getElem?_eq_some_iff.1 k1).1
  show (us.toArray ++ z)[j]? = some v
  rw [Array.getElem?_append_left (by simpa using hlt)]
  simpa using k1

theorem flat_take {n : Nat} {xs : List DV} (h : ∀ x ∈ xs, x.cells.length = n) {k : Nat} (hk : k ≤ xs.length) : (flat (xs.take k)).length = k * n := by
  rw [flat_length (fun x hx => h x (List.mem_of_mem_take hx)), List.length_take, Nat.min_eq_left hk]

theorem Row.take {F : Fz} {xs : List DV} {f : Nat → Option Value} (h : Row F (flat xs) f) (k : Nat) : Row F (flat (xs.take k)) f := by
  have hsplit : flat xs = flat (xs.take k) ++ flat (xs.drop k) := by rw [← flat_append, List.take_append_drop]
  rw [hsplit, Row_append] at h
  exact h.1

/-- 'append' to a list of one's own, which is taken from its place. -/
theorem append_core (tie : Ties G P) (h : Inv G Wr g st a.tmps w) {o0 : Org} {e : TypeId} {zs ys : List DV} (ho0 : st.all.at_ o0 = .own e zs) (hl : st.all.locked o0 = false) {k : Nat} (hk : k ≤ zs.length) {q : Option Addr} {cap : Nat}
    (hpv : pval g.θ a.tmps w o0 = some (.slice q zs.length cap)) {t ty : TypeId} (ht : G.elem t = some e) {size bytes : Nat} (hs : G.size e = some size) (hb : G.bytes e = some bytes) (h0 : 0 < size) (hb0 : 0 < bytes) (hle : (k + ys.length) * bytes ≤ 140737488355328)
    {q' : Option Addr} {c : Nat} (hy : ys = [] ∨ ∃ b o n, q' = some ⟨b, o, none⟩ ∧ (∀ y ∈ ys, y.cells.length = n) ∧ Row g.F (flat ys) (fun j => w.cell? ⟨b, o + j, none⟩)) (hhs : headSize size ys = true) (hat : atomsE ys = true) (d : Nat) :
    ∃ v' w' g', (Builtin.append_ #[t, t] ty #[.slice q k cap, .slice q' ys.length c]).run P w = .ok v' w' ∧ Inv G Wr g' (st.take1 o0) a.tmps w' ∧ OwnRel G Wr g' (st.take1 o0).ent (st.take1 o0).lk w' (.slot d) e (zs.take k ++ ys) v' ∧ Chg Wr base g w g' w' := by
  obtain ⟨u, ow', hu, h1, hown, how4⟩ := h.take ho0 hl o0
  rw [hpv] at hu
  simp only [Option.some.injEq] at hu; subst hu
  have hjunk := at_take1 ho0
  obtain ⟨zv, bb, hi⟩ := Ctx.size_inf hs
  obtain ⟨zv', nn, hi'⟩ := Ctx.bytes_inf hb
  rw [hi] at hi'
  simp only [Option.some.injEq, Prod.mk.injEq] at hi'
  obtain ⟨rfl, rfl, rfl⟩ := hi'
  obtain ⟨i, i1, i2, i3, i4⟩ := tie.inf _ _ _ _ hi
  have hzs := tie.zsz _ _ _ _ hi
  have hu' := tie.und _ _ (Ctx.elem_und ht)
  have hsmall : k + ys.length ≤ 140737488355328 := Nat.le_trans (Nat.le_mul_of_pos_right _ hb0) hle
  have hlk1 : (st.take1 o0).lk = st.lk := lk_setPlace _ _ _
  have hwr : lockedP (st.take1 o0).lk (.slot d) = false := rfl
  have hgs : GStep Wr g { g with ow := ow' } := GStep.reown g how4
  -- a new row
  have hnew : ∀ (olds news : List Value) (cp : Nat), RepL g.F (flat (zs.take k)) olds → RepL g.F (flat ys) news → (∀ y ∈ zs.take k ++ ys, y.cells.length = size) → k + ys.length ≤ cp → olds.length = k * size → news.length = ys.length * size →
      ∀ w', w'.heap = w.heap.push (.cells (olds.toArray ++ news.toArray ++ Builtin.zeroCells zv.cells (cp - (k + ys.length))) e (0, 0)) → w'.tape = w.tape → w'.os = w.os → w'.output = w.output →
      ∃ g', Inv G Wr g' (st.take1 o0) a.tmps w' ∧ OwnRel G Wr g' (st.take1 o0).ent (st.take1 o0).lk w' (.slot d) e (zs.take k ++ ys) (.slice (some ⟨w.heap.size, 0, none⟩) (k + ys.length) cp) ∧ Chg Wr base g w g' w' := by
    intro olds news cp r1 r2 hall hcp l1 l2 w' hw' e1 e2 e3
    have hlen : (zs.take k ++ ys).length = k + ys.length := by simp [Nat.min_eq_left hk]
    obtain ⟨m1, m2⟩ := h1.newRow (w' := w') hw' (.slot d) (e := e) (size := size) (cap := cp) (xs := zs.take k ++ ys) hs h0 (by rw [hlen]; exact hcp)
      (by
        simp only [Array.size_append, List.size_toArray, size_zeroCells, hzs, l1, l2, ← Nat.add_mul]
        congr 1; omega) hall (by
          rw [flat_append]
          have hr := (r1.append r2).rowApp (Builtin.zeroCells zv.cells (cp - (k + ys.length)))
          have : (olds ++ news).toArray = olds.toArray ++ news.toArray := by simp
          rw [this] at hr
          exact hr)
    rw [hlen] at m2
    exact ⟨_, m1, m2, chg_row hgs h.heap.big hw' e1 e2 e3⟩
  rcases hown with ⟨rfl, hq⟩ | ⟨b, cap2, cur, ty', size2, m1, m2, m3, m4, m5, m6, m7, m8, m9, m10, m11, m12⟩
  · simp only [List.length_nil, Value.slice.injEq] at hq
    obtain ⟨rfl, _, rfl⟩ := hq
    have hk0 : k = 0 := by simpa using hk
    subst hk0
    rcases hy with rfl | ⟨b', o', n, rfl, hn, hrow⟩
    · exact ⟨_, w, _, run_append_none hu' i1 w none q' 0 0 c (Nat.le_refl _), h1, .inl ⟨by simp, rfl⟩, hgs.chg base w⟩
    · cases hys : ys with
      | nil => exact ⟨_, w, _, run_append_none hu' i1 w none _ 0 0 c (Nat.le_refl _), h1, .inl ⟨by simp, rfl⟩, hgs.chg base w⟩
      | cons y0 yr =>
        rw [← hys]
        have hne : ys ≠ [] := by rw [hys]; simp
        have hnn := headSize_all hhs hn hne
        subst hnn
        have hpos : 0 < ys.length := by rw [hys]; simp
        obtain ⟨news, n1, n2, n3⟩ := Row_list _ _ hrow
        have hnl : news.length = ys.length * n := by rw [n1, flat_length hn]
        have hrun := run_append_nil (P := P) w t ty e i zv hu' i1 i2 ⟨b', o', none⟩ ys.length c news (by rw [i3]; exact hnl) (fun j v hj => by rw [cell?_add]; exact n2 j v hj) hpos (by omega) (by rw [i4]; exact Nat.le_trans (by simpa using hle) (by decide : 140737488355328 ≤ 281474976710656))
        have hge := grownCap_ge w ys.length 0 e
        obtain ⟨g', k1, k2, k3⟩ := hnew [] news (grownCap w ys.length 0 e) (by simp [RepL, flat]) n3 (by simpa using hn) (by simpa using hge) (by simp) hnl
          (w.drew.alloc (.cells (news.toArray ++ Builtin.zeroCells zv.cells (grownCap w ys.length 0 e - ys.length)) e)) (by rw [Nat.zero_add]; show w.heap.push _ = _; simp) rfl rfl rfl
        simp only [Nat.zero_add] at k2
        exact ⟨_, _, g', hrun, k1, k2, k3⟩
  · rw [hs] at m1
    simp only [Option.some.injEq] at m1; subst m1
    simp only [Value.slice.injEq] at m3
    obtain ⟨rfl, _, rfl⟩ := m3
    have hwrb : Wr b := m12 (by rw [← lockedP_eq]; exact hl)
    have hne1 : ∀ id, (st.take1 o0).ent id ≠ none → g.θ id ≠ b := fun id hid => m11 id ((ent_take1 id).1 hid)
    have hlt := flat_take m7 hk
    have hltk : (zs.take k).length = k := by simp [Nat.min_eq_left hk]
    by_cases hys : ys = []
    · subst hys
      have hinv := h1.hand hjunk (b := b) m9 m10 hne1 (fun _ _ => rfl) rfl (.slot d)
      refine ⟨_, w, _, run_append_none hu' i1 w (some ⟨b, 0, none⟩) q' k cap c (by omega), hinv, ?_, ?_⟩
      · rw [List.append_nil]
        refine .inr ⟨b, cap, cur, ty', size, hs, h0, by rw [hltk], by rw [hltk]; omega, m5, m6, fun y hy => m7 y (List.mem_of_mem_take hy), m8.take k, by simp [Gh.row], m10, hne1, fun _ => hwrb⟩
      · refine ⟨.refl _, fun _ _ => ⟨rfl, rfl⟩, fun b2 hb2 => ?_, fun _ _ => rfl, fun _ _ => rfl, Nat.le_refl _, rfl, rfl, rfl⟩
        simp only [Gh.row]
        rw [if_neg (by rintro rfl; exact hb2 hwrb)]
        exact how4 b2 hb2
    · rcases hy with hy | ⟨b', o', n, rfl, hn, hrow⟩
      · exact absurd hy hys
      · have hnn := headSize_all hhs hn hys
        subst hnn
        obtain ⟨news, n1, n2, n3⟩ := Row_list _ _ hrow
        have hnl : news.length = ys.length * n := by rw [n1, flat_length hn]
        have hone := repL_atoms n3 (atomsE_spec hat)
        have hall : ∀ y ∈ zs.take k ++ ys, y.cells.length = n := by
          intro y hy
          rcases List.mem_append.1 hy with hy | hy
          · exact m7 y (List.mem_of_mem_take hy)
          · exact hn y hy
        by_cases hroom : k + ys.length ≤ cap
        · have hcur : k * n + ys.length * n ≤ cur.size := by rw [m6, ← Nat.add_mul]; exact Nat.mul_le_mul_right _ hroom
          have hrun := run_append_room' (P := P) w t ty e ty' i hu' i1 b k cap cur m5 ⟨b', o', none⟩ ys.length c news (by rw [i3]; exact hnl) (fun j v hj => by rw [cell?_add]; exact n2 j v hj) hone hroom (by rw [i3, hnl]; exact hcur)
          rw [i3] at hrun
          generalize hw' : w.setRow b (cur.toList.take (k * n) ++ news ++ cur.toList.drop (k * n + news.length)).toArray = w' at hrun
          have hheap : w'.heap[b]? = some (.cells (cur.toList.take (k * n) ++ news ++ cur.toList.drop (k * n + news.length)).toArray ty' (0, 0)) := by rw [← hw']; exact setRow_heap w _ cur _ ty' _ m5
          have hother : ∀ b', b' ≠ b → w'.heap[b']? = w.heap[b']? := fun b' hb' => by rw [← hw']; exact setRow_other w _ b' _ hb'
          have hsz : w'.heap.size = w.heap.size := by rw [← hw']; simp [World.setRow]
          have hinv := h1.hand hjunk (b := b) (w' := w') m9 m10 hne1 hother hsz (.slot d)
          have hlen : (zs.take k ++ ys).length = k + ys.length := by simp [Nat.min_eq_left hk]
          refine ⟨_, w', _, hrun, hinv, ?_, ?_⟩
          · refine .inr ⟨b, cap, _, ty', n, hs, h0, by rw [hlen], by rw [hlen]; exact hroom, hheap, ?_, hall, ?_, by simp [Gh.row], m10, hne1, fun _ => hwrb⟩
            · simp [hnl]; omega
            · rw [flat_append, Row_append, hlt]
              have hsp := fun j => splice_get (l := cur.toList) (vs := news) (off := k * n) (by simp; omega) j
              constructor
              · intro j dd hj
                obtain ⟨v, p1, p2⟩ := (m8.take k) j dd hj
                refine ⟨v, ?_, p2⟩
                have hjl : j < k * n := by rw [← hlt]; exact (List.getElem?_eq_some_iff.1 hj).1
                simp only [List.getElem?_toArray]
                rw [hsp j, if_neg (by omega)]
                simpa using p1
              · intro j dd hj
                obtain ⟨v, p1, p2⟩ := ((RepL_iff _ _).1 n3).2 j dd hj
                refine ⟨v, ?_, p2⟩
                have hjl : j < news.length := (List.getElem?_eq_some_iff.1 p1).1
                simp only [List.getElem?_toArray]
                rw [hsp, if_pos (by omega)]
                rw [Nat.add_sub_cancel_left]
                exact p1
          · refine ⟨.refl _, fun _ _ => ⟨rfl, rfl⟩, fun b2 hb2 => (by simp only [Gh.row]; rw [if_neg (by rintro rfl; exact hb2 hwrb)]; exact how4 b2 hb2), fun _ _ => rfl, fun b2 hb2 => hother b2 ?_, by rw [hsz]; exact Nat.le_refl _, ?_, ?_, ?_⟩
            · rintro rfl; exact hb2 hwrb
            · rw [← hw']; rfl
            · rw [← hw']; rfl
            · rw [← hw']; rfl
        · obtain ⟨olds, p1, p2, p3⟩ := Row_list _ _ (m8.take k)
          have hol : olds.length = k * n := by rw [p1, hlt]
          have hrun := run_append_grow (P := P) w t ty e i zv hu' i1 i2 ⟨b, 0, none⟩ k cap olds (by rw [i3]; exact hol)
            (fun j v hj => by rw [cell?_add, Nat.zero_add]; simp only [World.cell?, m5]; simpa using p2 j v hj) ⟨b', o', none⟩ ys.length c news (by rw [i3]; exact hnl) (fun j v hj => by rw [cell?_add]; exact n2 j v hj)
            (by omega) (by omega) (by rw [i4]; exact growslice_fits (by omega) hle)
          have hge := grownCap_ge w (k + ys.length) cap e
          obtain ⟨g', k1, k2, k3⟩ := hnew olds news (grownCap w (k + ys.length) cap e) p3 n3 hall hge hol hnl (w.drew.alloc (.cells (olds.toArray ++ news.toArray ++ Builtin.zeroCells zv.cells (grownCap w (k + ys.length) cap e - (k + ys.length))) e)) rfl rfl rfl rfl
          exact ⟨_, _, g', hrun, k1, k2, k3⟩

theorem put_take (st : St) (dst : Option Nat) (v : AV) (t : List Org) : st.put dst { v := v, take := t } = match dst with
    | some d => (t.foldl St.take1 st).setSlot d v
    | none => t.foldl St.take1 st := by
  unfold St.put; rfl

end
end Go.Abs
end

section
namespace Go.Abs

section
variable {G : Ctx} {Wr : Nat → Prop} {P : Program}
variable {g : Gh} {V : Vw} {st : St} {a : Act} {w : World} {base nt : Nat}

theorem append_good (hV : Shows V st) (tie : Ties G P) (h : Inv G Wr g st a.tmps w) {types : List TypeId} {s x : Operand} {out : Out} {o : Oper} {c : Call} (ho : o.op = .call c) (hc : c.callee = .builtin .append) (hxs : c.args = #[s, x]) (hts : c.argTypes.toList = types)
    (hsz : a.tmps.size = nt) (hd : okDst nt o.dst = true) (hvd : ∀ d, o.dst = some d → out.v.views (.slot d) = false) (hm : appendOut G V types s x = some out) : Good G Wr P base g st a w o out := by
  unfold appendOut at hm
  split at hm
  · rename_i t t'
    split at hm
    · rename_i e he
      cases htt : Nat.beq t t' with
      | false => simp [ask, htt] at he
      | true =>
        simp only [ask, htt, cond_true] at he
        rw [beq_dec] at htt
        have htt' : t = t' := by simpa using htt
        subst htt'
        have hexec : execOp a.eval o = (do pure (.value (← Builtin.append_ #[t, t] o.type #[a.eval s, a.eval x])) : Sem Next) := by
          have : c.argTypes = #[t, t] := by apply Array.ext'; simpa using hts
          simp [execOp, ho, resolve, hc, hxs, this, invoke, builtin]
        split at hm
        · rename_i size bytes ys hs hb hx
          have hcs := cond_some hm
          clear hm
          obtain ⟨hcond, hm⟩ := hcs
          simp only [Bool.and_eq_true, blt_dec, decide_eq_true_eq] at hcond
          obtain ⟨⟨⟨h0, hb0⟩, hhs⟩, hat⟩ := hcond
          obtain ⟨q', cy, hxe, hy⟩ := look_lst hV h hx
          obtain ⟨i, i1, i2⟩ := tie.size hs
          have hu := tie.und _ _ (Ctx.elem_und he)
          rw [hxe] at hexec
          split at hm
          · -- an empty list
            rename_i e0 hos
            have hsv := opnd_rel hV h hos (by simp) rfl
            simp only [VRel] at hsv
            rw [hsv] at hexec
            split at hm
            · simp only [Option.some.injEq] at hm; subst hm
              refine Simple.good h hV hsz hd hvd ?_
              rw [hexec]
              refine Simple.plain (v := .slice none 0 0) (by simp [run_append_none hu i1 w none q' 0 0 cy (Nat.le_refl _)]) rfl (by simp only [VRel])
            · rename_i hne
              have hcs := cond_some hm
              clear hm
              obtain ⟨hle, hm⟩ := hcs
              simp only [ble_dec, decide_eq_true_eq] at hle
              simp only [Option.some.injEq] at hm; subst hm
              have hne' : ys ≠ [] := fun hq => hne hq
              rcases hy with hy | ⟨b', o', n, rfl, hn, hrow⟩
              · exact absurd hy hne'
              · have hnn := headSize_all hhs hn hne'
                subst hnn
                have hpos : 0 < ys.length := by
                  cases ys with
                  | nil => exact absurd rfl hne'
                  | cons _ _ => simp
                obtain ⟨zv, bb, hi⟩ := Ctx.size_inf hs
                obtain ⟨zv', nn, hi'⟩ := Ctx.bytes_inf hb
                rw [hi] at hi'
                simp only [Option.some.injEq, Prod.mk.injEq] at hi'
                obtain ⟨rfl, rfl, rfl⟩ := hi'
                obtain ⟨i', j1, j2, j3, j4⟩ := tie.inf _ _ _ _ hi
                rw [i1] at j1
                simp only [Option.some.injEq] at j1; subst j1
                have hzs := tie.zsz _ _ _ _ hi
                have hsmall : ys.length ≤ 140737488355328 := Nat.le_trans (Nat.le_mul_of_pos_right _ hb0) hle
                obtain ⟨news, n1, n2, n3⟩ := Row_list _ _ hrow
                have hnl : news.length = ys.length * n := by rw [n1, flat_length hn]
                have hrun := run_append_nil (P := P) w t o.type e i zv hu i1 j2 ⟨b', o', none⟩ ys.length cy news (by rw [i2]; exact hnl) (fun j v hj => by rw [cell?_add]; exact n2 j v hj) hpos (by omega) (by rw [j4]; exact Nat.le_trans hle (by decide))
                have hge := grownCap_ge w ys.length 0 e
                generalize hcp : grownCap w ys.length 0 e = cp at hrun hge
                obtain ⟨m1, m2⟩ := h.newRow (w' := w.drew.alloc (.cells (news.toArray ++ Builtin.zeroCells zv.cells (cp - ys.length)) e)) (cur := news.toArray ++ Builtin.zeroCells zv.cells (cp - ys.length)) (ty := e) rfl (.slot (o.dst.getD 0)) (e := e) (size := n) (cap := cp) (xs := ys) hs h0 hge
                  (by simp only [Array.size_append, List.size_toArray, size_zeroCells, hzs, hnl, ← Nat.add_mul]; congr 1; omega) hn (n3.rowApp _)
                refine good_last (v := .slice (some ⟨w.heap.size, 0, none⟩) ys.length cp) (by rw [hexec]; simp [hrun]) (.inl rfl) hsz hd m1 (chg_row (.refl g) h.heap.big rfl rfl rfl rfl) (put_v _ _ _) ?_
                intro d hdst
                simp only [isView, Bool.false_eq_true, if_false]
                intro _
                have hgo : o.dst.getD 0 = d := by rw [hdst]; rfl
                rw [hgo] at m2 ⊢
                exact m2
          · -- one's own
            rename_i e' xs hos
            obtain ⟨ts, hst, ht, h1, h2⟩ := opnd_own hV h hos
            subst hst
            have hcs := cond_some hm
            clear hm
            obtain ⟨hcond, hm⟩ := hcs
            simp only [Bool.and_eq_true, ble_dec, beq_dec, decide_eq_true_eq] at hcond
            obtain ⟨hle, rfl⟩ := hcond
            simp only [Option.some.injEq] at hm; subst hm
            obtain ⟨q, cap, hq⟩ := h2.header
            rw [hq] at hexec h1
            obtain ⟨v', w', g', r1, r2, r3, r4⟩ := append_core (base := base) tie h (o0 := .slot ts) ht rfl (Nat.le_refl _) (by simpa only [pval] using h1) (ty := o.type) he hs hb h0 hb0 hle hy hhs hat (o.dst.getD 0) (c := cy)
            rw [List.take_length] at r3
            refine good_last (v := v') (by rw [hexec]; simp [r1]) (.inl rfl) hsz hd r2 r4 (put_take _ _ _ _) ?_
            intro d hdst
            simp only [isView, Bool.false_eq_true, if_false]
            intro _
            have hgo : o.dst.getD 0 = d := by rw [hdst]; rfl
            rw [hgo] at r3
            exact r3
          · -- a view
            rename_i p k hos
            obtain ⟨ts, hst, ht, h1, h2⟩ := opnd_view hV h hos rfl
            subst hst
            have h2' := h2
            simp only [ViewRel] at h2
            obtain ⟨xs, q, cap, k1, k2, k3, k4⟩ := h2
            have hcapx := place_cap h k1 k2
            rw [k3] at hexec
            split at hm
            · simp only [Option.some.injEq] at hm; subst hm
              refine Simple.good h hV hsz hd hvd ?_
              rw [hexec]
              refine ⟨_, [], a.eval (.tmp ts), rfl, ?_, by simp, fun g' st' hg h' hf _ => ?_⟩
              · rw [k3]; simp [run_append_none hu i1 w q q' k cap cy (by omega)]
              · simp only [isView, if_true]
                have ht' : st'.slot ts = .vw p k := by rw [hf.toFrz.slot (by rw [ht]; simp)]; exact ht
                obtain ⟨v', m1, m2⟩ := h'.view ts _ ht' rfl
                rw [h1] at m1
                simp only [Option.some.injEq] at m1
                rw [m1]; exact m2
            · rename_i hne
              split at hm
              · rename_i e' zs hat'
                have hcs := cond_some hm
                clear hm
                obtain ⟨hcond, hm⟩ := hcs
                simp only [Bool.and_eq_true, ble_dec, beq_dec, decide_eq_true_eq, Bool.not_eq_true'] at hcond
                obtain ⟨⟨hle, rfl⟩, hlk⟩ := hcond
                simp only [Option.some.injEq] at hm; subst hm
                have hat2 := hV.at_ (o := p) (by rw [hat']; simp)
                rw [hat'] at hat2
                have hxz : xs = zs := by
                  rcases k1 with ⟨e2, k1⟩ | k1
                  · rw [hat2] at k1; simp only [AV.own.injEq] at k1; exact k1.2.symm
                  · rw [hat2] at k1; cases k1
                subst hxz
                obtain ⟨v', w', g', r1, r2, r3, r4⟩ := append_core (base := base) tie h (o0 := p) hat2 (by rw [hV.locked]; exact hlk) k4 k2 (ty := o.type) he hs hb h0 hb0 hle hy hhs hat (o.dst.getD 0) (c := cy)
                refine good_last (v := v') (by rw [hexec]; simp [r1]) (.inl rfl) hsz hd r2 r4 (put_take _ _ _ _) ?_
                intro d hdst
                simp only [isView, Bool.false_eq_true, if_false]
                intro _
                have hgo : o.dst.getD 0 = d := by rw [hdst]; rfl
                rw [hgo] at r3
                exact r3
              · cases hm
          · cases hm
        · cases hm
    · cases hm
  · cases hm

end
end Go.Abs
end

section
namespace Go.Abs

section
variable {G : Ctx} {Wr : Nat → Prop} {P : Program}

theorem has_iff (n : Nat) : ∀ l : List Nat, has n l = true ↔ n ∈ l
  | [] => by simp [has]
  | k :: r => by
    simp only [has, beq_dec]
    by_cases h : k = n
    · subst h; simp
    · simp [h, has_iff n r, Ne.symm h]

theorem allIn_spec {ids : List Nat} : ∀ {l : List Nat}, allIn ids l = true → ∀ i ∈ l, has i ids = true
  | [], _ => by simp
  | k :: r, h => by
    unfold allIn at h
    cases hk : has k ids with
    | false => rw [hk] at h; cases h
    | true =>
      rw [hk] at h
      intro i hi
      rcases List.mem_cons.1 hi with rfl | hi
      · exact hk
      · exact allIn_spec h i hi

theorem disj_spec : ∀ {l m : List Nat}, disj l m = true → ∀ i, has i l = true → has i m = false
  | [], m, _, i, hi => by simp [has] at hi
  | k :: r, m, h, i, hi => by
    unfold disj at h
    cases hk : has k m with
    | true => rw [hk] at h; cases h
    | false =>
      rw [hk] at h
      simp only [has, beq_dec] at hi
      by_cases hki : k = i
      · subst hki; exact hk
      · simp [hki] at hi; exact disj_spec h i hi

theorem below_spec {base : Nat} : ∀ {l : List Nat}, below base l = true → ∀ i, has i l = true → i < base
  | [], _, i, hi => by simp [has] at hi
  | k :: r, h, i, hi => by
    unfold below at h
    cases hk : Nat.blt k base with
    | false => rw [hk] at h; cases h
    | true =>
      rw [hk] at h
      rw [blt_dec] at hk
      simp only [has, beq_dec] at hi
      by_cases hki : k = i
      · subst hki; simpa using hk
      · simp [hki] at hi; exact below_spec h i hi

mutual
theorem VRel.sub {F : Fz} {θ θ' : Nat → Nat} {T T' : Nat → Option Ent} : ∀ (A : AV) (v : Value), (∀ i ∈ A.ids, T' i = T i ∧ θ' i = θ i) → VRel F θ T A v → VRel F θ' T' A v
  | .dv d, v, _, hr => by simpa only [VRel] using hr
  | .ptr id off, v, h, hr => by simp only [VRel] at hr ⊢; rw [(h id (by simp [AV.ids])).1, (h id (by simp [AV.ids])).2]; exact hr
  | .map id, v, h, hr => by simp only [VRel] at hr ⊢; rw [(h id (by simp [AV.ids])).1, (h id (by simp [AV.ids])).2]; exact hr
  | .nils _, v, _, hr => by simpa only [VRel] using hr
  | .agg cs, v, h, hr => by
    simp only [VRel] at hr ⊢
    obtain ⟨us, hv, hc⟩ := hr
    exact ⟨us, hv, VRelL.sub cs _ (by simpa only [AV.ids] using h) hc⟩
  | .ifc t a, v, h, hr => by
    simp only [VRel] at hr ⊢
    obtain ⟨u, hv, hc⟩ := hr
    exact ⟨u, hv, VRel.sub a u (by simpa only [AV.ids] using h) hc⟩
  | .fn f cs, v, h, hr => by
    simp only [VRel] at hr ⊢
    obtain ⟨us, hv, hc⟩ := hr
    exact ⟨us, hv, VRelL.sub cs _ (by simpa only [AV.ids] using h) hc⟩
  | .tup cs, v, h, hr => by
    simp only [VRel] at hr ⊢
    obtain ⟨us, hv, hc⟩ := hr
    exact ⟨us, hv, VRelL.sub cs _ (by simpa only [AV.ids] using h) hc⟩
  | .own _ _, v, _, hr => by simp only [VRel] at hr
  | .vw _ _, v, _, hr => by simp only [VRel] at hr
  | .vp _ _ _, v, _, hr => by simp only [VRel] at hr
  | .undf, v, _, hr => by simpa only [VRel] using hr
  | .junk, v, _, hr => by simp only [VRel] at hr
theorem VRelL.sub {F : Fz} {θ θ' : Nat → Nat} {T T' : Nat → Option Ent} : ∀ (A : List AV) (v : List Value), (∀ i ∈ AV.idss A, T' i = T i ∧ θ' i = θ i) → VRelL F θ T A v → VRelL F θ' T' A v
  | [], l, _, hr => by simpa only [VRelL] using hr
  | a :: r, l, h, hr => by
    simp only [VRelL] at hr ⊢
    obtain ⟨v, l', hl, hd, hr⟩ := hr
    exact ⟨v, l', hl, VRel.sub a v (fun i hi => h i (by simp [AV.idss, hi])) hd, VRelL.sub r l' (fun i hi => h i (by simp [AV.idss, hi])) hr⟩
end

theorem idss_get : ∀ {l : List AV} {j : Nat} {A : AV}, l[j]? = some A → ∀ i ∈ A.ids, i ∈ AV.idss l
  | [], j, A, h, i, hi => by simp at h
  | B :: r, 0, A, h, i, hi => by simp at h; subst h; simp [AV.idss, hi]
  | B :: r, j + 1, A, h, i, hi => by
    have := idss_get (l := r) (j := j) (by simpa using h) i hi
    simp [AV.idss, this]
theorem kvIds_get : ∀ {l : List (ByteArray × AV)} {j : Nat} {k : ByteArray} {A : AV}, l[j]? = some (k, A) → ∀ i ∈ A.ids, i ∈ kvIds l
  | [], j, k, A, h, i, hi => by simp at h
  | (k', B) :: r, 0, k, A, h, i, hi => by simp at h; obtain ⟨rfl, rfl⟩ := h; simp [kvIds, hi]
  | (k', B) :: r, j + 1, k, A, h, i, hi => by
    have := kvIds_get (l := r) (j := j) (by simpa using h) i hi
    simp [kvIds, this]
theorem cellOf_ids {e : Ent} {c : Nat} {A : AV} (h : cellOf (some e) c = A) (hj : A ≠ .junk) : ∀ i ∈ A.ids, i ∈ e.ids := by
  intro i hi
  cases e with
  | box cs =>
    simp only [cellOf] at h
    split at h
    · rename_i v hv; subst h; exact idss_get hv i hi
    · exact absurd h.symm hj
  | map kv =>
    simp only [cellOf] at h
    split at h
    · rename_i k v hv; subst h; exact kvIds_get hv i hi
    · exact absurd h.symm hj

theorem find_mem {α : Type} {i : Nat} {e : α} : ∀ {l : List (Nat × α)}, find i l = some e → (i, e) ∈ l
  | [], h => by simp [find] at h
  | (k, v) :: r, h => by
    rw [find_cons] at h
    by_cases hk : k = i
    · subst hk; rw [if_pos rfl] at h; simp at h; subst h; simp
    · rw [if_neg hk] at h; simp [find_mem h]
theorem tbIds_mem : ∀ {tb : List (Nat × Ent)} {i : Nat} {e : Ent}, (i, e) ∈ tb → ∀ j ∈ e.ids, j ∈ tbIds tb
  | [], i, e, h, j, hj => by simp at h
  | (k, e') :: r, i, e, h, j, hj => by
    simp only [tbIds, List.mem_append]
    rcases List.mem_cons.1 h with h | h
    · simp only [Prod.mk.injEq] at h; obtain ⟨rfl, rfl⟩ := h; exact .inl hj
    · exact .inr (tbIds_mem h j hj)

theorem entsOf_find {V : Vw} : ∀ {ids : List Nat} {tb : List (Nat × Ent)}, entsOf V ids = some tb → ∀ i, (has i ids = true → ∃ e, V.get i = some e ∧ find i tb = some e) ∧ (has i ids = false → find i tb = none)
  | [], tb, h, i => by simp only [entsOf, Option.some.injEq] at h; subst h; simp [has, find]
  | k :: r, tb, h, i => by
    simp only [entsOf] at h
    split at h
    · rename_i e l h1 h2
      simp only [Option.some.injEq] at h; subst h
      have ih := entsOf_find h2 i
      simp only [has, beq_dec, find_cons]
      by_cases hk : k = i
      · subst hk
        refine ⟨fun _ => ⟨e, h1, by simp⟩, fun hf => by simp at hf⟩
      · simp only [hk, decide_false, cond_false, if_false]
        exact ih
    · cases h

/-- The boxes that are handed, by themselves. -/
theorem Heap.sub {g : Gh} {T T' : Nat → Option Ent} {lk lk' : List Nat} {w : World} {Wr' : Nat → Prop} (h : Heap G Wr g T lk w) (hT : ∀ i e, T' i = some e → T i = some e) (hcl : ∀ i c A, cellOf (T' i) c = A → A ≠ .junk → ∀ j ∈ A.ids, T' j ≠ none)
    (hwr : ∀ i, T' i ≠ none → has i lk' = false → Wr' (g.θ i)) (hbig : ∀ b, w.heap.size ≤ b → Wr' b)
    (hown : ∀ i c e xs n cap b, has i lk' = false → T' i ≠ none → cellOf (T' i) c = .own e xs → cellVal w (g.θ i) c = some (.slice (some ⟨b, 0, none⟩) n cap) → Wr' b) : Heap G Wr' g T' lk' w := by
  have hne : ∀ i, T' i ≠ none → T i = T' i := by
    intro i hi
    cases he : T' i with
    | none => exact absurd he hi
    | some e => exact hT i e he
  have hne' : ∀ i, T' i ≠ none → T i ≠ none := fun i hi => by rw [hne i hi]; exact hi
  refine { ok := h.ok, box := fun i cs hi => h.box i cs (hT i _ hi), map := fun i kv hi => h.map i kv (hT i _ hi), inj := fun i j hi hj hij => h.inj i j (hne' i hi) (hne' j hj) hij, free := fun i hi => h.free i (hne' i hi), wr := hwr, big := hbig, cells := ?_ }
  intro id c A hA hj
  have hid : T' id ≠ none := by
    intro he; rw [he] at hA; exact hj hA.symm
  obtain ⟨u, k1, k2⟩ := h.cells id c A (by rw [hne id hid]; exact hA) hj
  refine ⟨u, k1, ?_⟩
  have hids : ∀ i ∈ A.ids, T' i = T i := by
    intro i hi
    exact (hne i (hcl id c A hA hj i hi)).symm
  cases A with
  | own e xs =>
    simp only [PRel] at k2 ⊢
    rcases k2 with k2 | ⟨b, cap, cur, ty, size, h1, h2, h3, h4, h5, h6, h7, h8, h9, h10, h11, h12⟩
    · exact .inl k2
    · refine .inr ⟨b, cap, cur, ty, size, h1, h2, h3, h4, h5, h6, h7, h8, h9, h10, fun i hi => h11 i (hne' i hi), fun hl => ?_⟩
      exact hown id c e xs _ _ b hl hid hA (by rw [k1, h3])
  | vw o k => exact absurd k2.notView (by simp [isView])
  | vp o j off => exact absurd k2.notView (by simp [isView])
  | _ => exact VRel.sub _ _ (fun i hi => ⟨hids i hi, rfl⟩) k2

theorem closed_cells {T' : Nat → Option Ent} (h : ∀ i e, T' i = some e → ∀ j ∈ e.ids, T' j ≠ none) : ∀ i c A, cellOf (T' i) c = A → A ≠ .junk → ∀ j ∈ A.ids, T' j ≠ none := by
  intro i c A hA hj j hjm
  cases he : T' i with
  | none => rw [he] at hA; exact absurd hA.symm hj
  | some e =>
    rw [he] at hA
    exact h i e he j (cellOf_ids hA hj j hjm)

/-! ## Frozen places elsewhere -/

theorem ent_freeze1 (st : St) (o : Org) (i : Nat) (ho : ∀ c, o ≠ .cell i c) : (st.freeze1 o).ent i = st.ent i := by
  unfold St.freeze1
  split
  · rw [ent_setPlace]
    cases o with
    | slot n => rfl
    | cell id c =>
      simp only
      rw [if_neg]
      rintro rfl
      exact ho c rfl
  · rfl
theorem ent_freezeAll : ∀ (f : List Org) (st : St) (i : Nat), (∀ o ∈ f, ∀ c, o ≠ .cell i c) → (f.foldl St.freeze1 st).ent i = st.ent i
  | [], st, i, _ => rfl
  | o :: f, st, i, h => by
    simp only [List.foldl_cons]
    rw [ent_freezeAll f (st.freeze1 o) i (fun o' ho' => h o' (by simp [ho'])), ent_freeze1 st o i (h o (by simp))]

theorem lends_spec {ids : List Nat} : ∀ {l : List Org}, lends ids l = false → ∀ o ∈ l, ∀ i c, o = .cell i c → has i ids = false
  | [], _, o, ho, _, _, _ => by simp at ho
  | .slot n :: r, h, o, ho, i, c, hoc => by
    simp only [lends] at h
    rcases List.mem_cons.1 ho with rfl | ho
    · cases hoc
    · exact lends_spec h o ho i c hoc
  | .cell id c' :: r, h, o, ho, i, c, hoc => by
    simp only [lends, Bool.or_eq_false_iff] at h
    rcases List.mem_cons.1 ho with rfl | ho
    · simp only [Org.cell.injEq] at hoc; rw [← hoc.1]; exact h.1
    · exact lends_spec h.2 o ho i c hoc

/-- What a function that is called is: none of the given ones. -/
def Enters (P : Program) (f : FuncId) : Prop := ∃ fn, P.funcs[f]? = some fn ∧ (fn.name == "runtime.NumGoroutine") = false ∧ fn.body.isNone = false

/-- The interpreter's answers to calls are the machine's. -/
def CallsOK (G : Ctx) (P : Program) (Gl : Fz → Prop) (call : CallF) : Prop := ∀ f args tb lk base r tb', call f args tb lk base = some (r, tb') → Enters P f ∧
  ∀ (Wr : Nat → Prop) g w (vs : Array Value), Gl g.F → Heap G Wr g (fun i => find i tb) lk w → VRelL g.F g.θ (fun i => find i tb) args vs.toList → (∀ i, find i tb ≠ none → i < base) → (∀ i, has i lk = true → i < base) →
    Calls P f vs w fun e w' => ∃ v, e = .returned v ∧ ∃ g', Chg Wr base g w g' w' ∧ Heap G Wr g' (fun i => find i tb') lk w' ∧ PRel G Wr g' (fun i => find i tb') lk w' (.slot 0) r v

/-- Memory that was stays as it is. -/
structure Quiet (w w' : World) : Prop where
  heap : ∀ b, b < w.heap.size → w'.heap[b]? = w.heap[b]?
  size : w.heap.size ≤ w'.heap.size
  os : w'.os = w.os
  tape : w'.tape = w.tape
  output : w'.output = w.output

/-- The library's functions that are taken as they are known. -/
structure Prims (G : Ctx) (P : Program) (Gl : Fz → Prop) : Prop where
  up : ∀ F F', F.le F' → Gl F → Gl F'
  asE : Enters P G.asFn
  ixE : Enters P G.ixFn
  asNil : ∀ u w, Calls P G.asFn #[.nilIface, u] w fun e w' => e = .returned (.bool false) ∧ Quiet w w'
  asHit : ∀ F w, Gl F → F.ok w → ∀ (e t : Addr) (old : Value), w.cell? t = some old → w.frozen? t = false → Calls P G.asFn #[.iface G.faultT (.pointer (some e)), .iface G.asT (.pointer (some t))] w fun ev w' =>
    ev = .returned (.bool true) ∧ ∃ w1, Quiet w w1 ∧ w' = w1.setCell t (.pointer (some e))
  ix : ∀ F w, Gl F → F.ok w → ∀ (s sub : ByteArray), s.size < 4294967281 → Calls P G.ixFn #[.string s, .string sub] w fun e w' =>
    e = .returned (.int .i64 (Lib.index s.data.toList sub.data.toList)) ∧ Quiet w w'

end
end Go.Abs
end

section
namespace Go.Abs

section
variable {G : Ctx} {Wr : Nat → Prop} {P : Program}

/-- What a function may change that is handed boxes. -/
def HWr (g : Gh) (T : Nat → Option Ent) (ids : List Nat) (w : World) (b : Nat) : Prop :=
  w.heap.size ≤ b ∨ (∃ i, has i ids = true ∧ T i ≠ none ∧ g.θ i = b) ∨
    (∃ i c e xs n cap, has i ids = true ∧ cellOf (T i) c = .own e xs ∧ cellVal w (g.θ i) c = some (.slice (some ⟨b, 0, none⟩) n cap))

theorem OwnRel.block {g : Gh} {T lk w p e xs} {b n cap : Nat} (h : OwnRel G Wr g T lk w p e xs (.slice (some ⟨b, 0, none⟩) n cap)) :
    g.ow b = some p ∧ g.F.free b ∧ (∀ id, T id ≠ none → g.θ id ≠ b) ∧ (lockedP lk p = false → Wr b) ∧ b < w.heap.size := by
  rcases h with ⟨_, h⟩ | ⟨b2, cap2, cur, ty, size, h1, h2, h3, h4, h5, h6, h7, h8, h9, h10, h11, h12⟩
  · cases h
  · simp only [Value.slice.injEq, Option.some.injEq, Addr.mk.injEq] at h3
    obtain ⟨⟨rfl, _, _⟩, _, _⟩ := h3
    exact ⟨h9, h10, h11, h12, heap_lt h5⟩

variable {g : Gh} {T : Nat → Option Ent} {lk ids : List Nat} {w : World}

theorem HWr.cell (h : Heap G Wr g T lk w) {i c : Nat} {e : TypeId} {xs : List DV} {b n cap : Nat} (h1 : cellOf (T i) c = .own e xs) (h2 : cellVal w (g.θ i) c = some (.slice (some ⟨b, 0, none⟩) n cap)) :
    g.ow b = some (.cell i c) ∧ g.F.free b ∧ (∀ id, T id ≠ none → g.θ id ≠ b) ∧ (has i lk = false → Wr b) ∧ b < w.heap.size := by
  obtain ⟨u, k1, k2⟩ := h.cells i c _ h1 (by simp)
  rw [h2] at k1
  simp only [Option.some.injEq] at k1
  rw [← k1] at k2
  exact OwnRel.block (by simpa only [PRel] using k2)

theorem HWr.wr (h : Heap G Wr g T lk w) (hd : ∀ i, has i ids = true → has i lk = false) {b : Nat} (hb : HWr g T ids w b) : Wr b := by
  rcases hb with hb | ⟨i, h1, h2, rfl⟩ | ⟨i, c, e, xs, n, cap, h1, h2, h3⟩
  · exact h.big b hb
  · exact h.wr i h2 (hd i h1)
  · exact (HWr.cell h h2 h3).2.2.2.1 (hd i h1)

theorem HWr.box (h : Heap G Wr g T lk w) {j : Nat} (hj : T j ≠ none) (hn : has j ids = false) : ¬ HWr g T ids w (g.θ j) := by
  rintro (hb | ⟨i, h1, h2, h3⟩ | ⟨i, c, e, xs, n, cap, h1, h2, h3⟩)
  · have := h.toBase.block hj; omega
  · have := h.inj i j h2 hj h3
    subst this
    rw [h1] at hn; cases hn
  · exact (HWr.cell h h2 h3).2.2.1 j hj rfl

theorem HWr.own (h : Heap G Wr g T lk w) {p : Org} (hp : ∀ i c, p = .cell i c → has i ids = false) {b : Nat} (how : g.ow b = some p) (hne : ∀ id, T id ≠ none → g.θ id ≠ b) (hlt : b < w.heap.size) : ¬ HWr g T ids w b := by
  rintro (hb | ⟨i, h1, h2, h3⟩ | ⟨i, c, e, xs, n, cap, h1, h2, h3⟩)
  · omega
  · exact hne i h2 h3
  · have := (HWr.cell h h2 h3).1
    rw [how] at this
    have := hp i c (Option.some.inj this)
    rw [h1] at this; cases this

theorem find_foldr (j : Nat) : ∀ (l tb : List (Nat × Ent)), find j (l.foldr (fun (x : Nat × Ent) l => put1 x.1 x.2 l) tb) = match find j l with | some e => some e | none => find j tb
  | [], tb => by simp [find]
  | (i, e) :: r, tb => by
    simp only [List.foldr_cons, find_put1, find_cons]
    by_cases h : i = j
    · simp [h]
    · simp only [h, if_false]; exact find_foldr j r tb

/-- The state behind a call that was handed boxes. -/
def backSt (st1 : St) (ids : List Nat) (tb' : List (Nat × Ent)) : St := { sl := killIn (AV.viewsIn ids) st1.sl, tb := tb'.foldr (fun (x : Nat × Ent) l => put1 x.1 x.2 l) st1.tb, lk := st1.lk }

open Classical in
theorem Inv.back1 {g1 g' : Gh} {st1 : St} {tmps : Array Value} {w w' : World} (h : Inv G Wr g1 st1 tmps w) {ids : List Nat} {tb' : List (Nat × Ent)} {base' : Nat} (hids : ∀ i, has i ids = true → st1.ent i ≠ none)
    (hbase : ∀ i, has i ids = true → i < base') (hchg : Chg (HWr g1 st1.ent ids w) base' g1 w g' w') (hheap : Heap G (HWr g1 st1.ent ids w) g' (fun i => find i tb') [] w')
    (hkind : ∀ i, has i ids = true → ∃ e, find i tb' = some e ∧ isBoxE (some e) = isBoxE (st1.ent i) ∧ isMapE (some e) = isMapE (st1.ent i)) (hnone : ∀ i, has i ids = false → find i tb' = none) (hdis : ∀ i, has i ids = true → has i st1.lk = false) (p : Org) :
    ∃ g'' : Gh, g''.F = g'.F ∧ g''.θ = g1.θ ∧ (∀ b, ¬ HWr g1 st1.ent ids w b → g''.ow b = g1.ow b) ∧ (∀ b, HWr g1 st1.ent ids w b → g'.ow b = some (.slot 0) → g''.ow b = some p) ∧ Kept g'.θ (fun i => find i tb') g''.θ (backSt st1 ids tb').ent ∧
      (∀ j, (backSt st1 ids tb').ent j ≠ none ↔ st1.ent j ≠ none) ∧ Inv G Wr g'' (backSt st1 ids tb') tmps w' := by
  let H := HWr g1 st1.ent ids w
  let g'' : Gh := { F := g'.F, θ := g1.θ, ow := fun b => if H b then (if g'.ow b = some (.slot 0) then some p else g'.ow b) else g1.ow b }
  have hb := h.heap.toBase
  have hT : ∀ j, (backSt st1 ids tb').ent j = if has j ids then find j tb' else st1.ent j := by
    intro j
    show find j (tb'.foldr (fun (x : Nat × Ent) l => put1 x.1 x.2 l) st1.tb) = _
    rw [find_foldr]
    cases hj : has j ids with
    | true =>
      obtain ⟨e, he, _⟩ := hkind j hj
      simp [he]
    | false => rw [hnone j hj]; rfl
  have hin : ∀ j, has j ids = true → (backSt st1 ids tb').ent j = find j tb' := fun j hj => by rw [hT, if_pos hj]
  have hout : ∀ j, has j ids = false → (backSt st1 ids tb').ent j = st1.ent j := fun j hj => by rw [hT, hj]; rfl
  have hθ : ∀ j, has j ids = true → g'.θ j = g1.θ j := fun j hj => hchg.θ j (hbase j hj)
  have hdom : ∀ j, (backSt st1 ids tb').ent j ≠ none ↔ st1.ent j ≠ none := by
    intro j
    cases hj : has j ids with
    | true =>
      obtain ⟨e, he, _⟩ := hkind j hj
      rw [hin j hj, he]
      simp [hids j hj]
    | false => rw [hout j hj]
  have hfind : ∀ j, find j tb' ≠ none → has j ids = true := by
    intro j hj
    cases hq : has j ids with
    | true => rfl
    | false => exact absurd (hnone j hq) hj
  have hslot : ∀ n, (backSt st1 ids tb').slot n = if (st1.slot n).viewsIn ids then .junk else st1.slot n := fun n => slot_kill st1 (AV.viewsIn ids) n
  have hnbox : ∀ j, st1.ent j ≠ none → has j ids = false → ¬ H (g1.θ j) := fun j hj hn => HWr.box h.heap hj hn
  have hkept : Kept g1.θ st1.ent g''.θ (backSt st1 ids tb').ent := by
    constructor <;> intro i hi <;> refine ⟨?_, rfl⟩ <;> cases hj : has i ids with
    | true =>
      obtain ⟨e, he, k1, k2⟩ := hkind i hj
      rw [hin i hj, he]
      first | (rw [k1]; exact hi) | (rw [k2]; exact hi)
    | false => rw [hout i hj]; exact hi
  have hkept' : Kept g'.θ (fun i => find i tb') g''.θ (backSt st1 ids tb').ent := by
    constructor <;> intro i hi
    all_goals
      have hj := hfind i (by intro he; simp only [he] at hi; cases hi)
      rw [hin i hj]
      exact ⟨hi, (hθ i hj).symm⟩
  -- places elsewhere
  have hpv : ∀ o, st1.all.at_ o ≠ .junk → (∀ i c, o = .cell i c → has i ids = false) → pval g''.θ tmps w' o = pval g1.θ tmps w o := by
    intro o ho hn
    cases o with
    | slot n => rfl
    | cell id c =>
      have hid := ent_of_at ho
      show cellVal w' (g1.θ id) c = cellVal w (g1.θ id) c
      simp only [cellVal, hchg.heap _ (hnbox id hid (hn id c rfl))]
  have hpr : ∀ (q : Org) A u, (∀ i c, q = .cell i c → has i ids = false) → PRel G Wr g1 st1.ent st1.lk w q A u → PRel G Wr g'' (backSt st1 ids tb').ent st1.lk w' q A u := by
    intro q A u hq hp
    refine PRel.mono hp hchg.le hkept ?_
    intro e xs _ b h3 h4 h5 h6
    have hnb : ¬ H b := HWr.own h.heap hq h3 h5 h6
    refine ⟨hchg.heap b hnb, ?_, ?_, fun id hid => h5 id ((hdom id).1 hid)⟩
    · show (if H b then _ else g1.ow b) = some q
      rw [if_neg hnb]; exact h3
    · exact ⟨fun i => by rw [show g''.F = g'.F from rfl, (hchg.new b hnb).1]; exact h4.cell i, by rw [show g''.F = g'.F from rfl, (hchg.new b hnb).2]; exact h4.map⟩
  -- the boxes that were handed
  have hprin : ∀ i c A u, has i ids = true → PRel G H g' (fun i => find i tb') [] w' (.cell i c) A u → PRel G Wr g'' (backSt st1 ids tb').ent st1.lk w' (.cell i c) A u := by
    intro i c A u hi hp
    cases A with
    | own e xs =>
      simp only [PRel] at hp ⊢
      rcases hp with hp | ⟨b, cap, cur, ty, size, m1, m2, m3, m4, m5, m6, m7, m8, m9, m10, m11, m12⟩
      · exact .inl hp
      · have hH : H b := m12 rfl
        refine .inr ⟨b, cap, cur, ty, size, m1, m2, m3, m4, m5, m6, m7, m8, ?_, m10, fun id hid => ?_, fun _ => HWr.wr h.heap hdis hH⟩
        · show (if H b then (if g'.ow b = some (.slot 0) then some p else g'.ow b) else g1.ow b) = some (.cell i c)
          rw [if_pos hH, m9, if_neg (by simp)]
        · show g1.θ id ≠ b
          cases hq : has id ids with
          | true =>
            rw [← hθ id hq]
            exact m11 id (by obtain ⟨e, he, _⟩ := hkind id hq; simp [he])
          | false =>
            intro hb'
            exact hnbox id ((hdom id).1 hid) hq (hb' ▸ hH)
    | _ => exact VRel.mono (.refl _) hkept' _ _ hp
  refine ⟨g'', rfl, rfl, fun b hb => if_neg hb, fun b hb hs => ?_, hkept', hdom, ?_⟩
  · show (if H b then (if g'.ow b = some (.slot 0) then some p else g'.ow b) else g1.ow b) = some p
    rw [if_pos hb, if_pos hs]
  refine Inv.intro ?_ ?_ ?_ ?_
  · refine { ok := hheap.ok, box := ?_, map := ?_, inj := ?_, free := ?_, wr := ?_, big := ?_ }
    · intro i cs hi
      cases hj : has i ids with
      | true =>
        rw [hin i hj] at hi
        have := hheap.box i cs hi
        rw [hθ i hj] at this
        exact this
      | false =>
        rw [hout i hj] at hi
        obtain ⟨cur, ty, k1, k2⟩ := hb.box i cs hi
        exact ⟨cur, ty, (hchg.heap _ (hnbox i (by rw [hi]; simp) hj)).trans k1, k2⟩
    · intro i kv hi
      cases hj : has i ids with
      | true =>
        rw [hin i hj] at hi
        have := hheap.map i kv hi
        rw [hθ i hj] at this
        exact this
      | false =>
        rw [hout i hj] at hi
        obtain ⟨es, clock, k1, k2⟩ := hb.map i kv hi
        exact ⟨es, clock, (hchg.heap _ (hnbox i (by rw [hi]; simp) hj)).trans k1, k2⟩
    · intro i j hi hj hij
      exact hb.inj i j ((hdom i).1 hi) ((hdom j).1 hj) hij
    · intro i hi
      have hi1 := (hdom i).1 hi
      cases hj : has i ids with
      | true =>
        have := hheap.free i (by obtain ⟨e, he, _⟩ := hkind i hj; simp [he])
        rw [hθ i hj] at this
        exact this
      | false =>
        have hnb := hnbox i hi1 hj
        have hf := hb.free i hi1
        exact ⟨fun k => by show g'.F.cell (g1.θ i) k = none; rw [(hchg.new _ hnb).1]; exact hf.cell k, by show g'.F.map (g1.θ i) = none; rw [(hchg.new _ hnb).2]; exact hf.map⟩
    · intro i hi hl
      exact hb.wr i ((hdom i).1 hi) hl
    · intro b hbs
      exact hb.big b (Nat.le_trans hchg.size hbs)
  · intro o A hA hj hv
    have old : (∀ i c, o = .cell i c → has i ids = false) → st1.all.at_ o = A → ∃ u, pval g''.θ tmps w' o = some u ∧ PRel G Wr g'' (backSt st1 ids tb').ent (backSt st1 ids tb').lk w' o A u := by
      intro hn ho
      obtain ⟨u, k1, k2⟩ := h.place o A ho hj hv
      exact ⟨u, (hpv o (by rw [ho]; exact hj) hn).trans k1, hpr o A u hn k2⟩
    cases o with
    | slot n =>
      refine old (by simp) ?_
      rw [at_slot, hslot] at hA
      split at hA
      · exact absurd hA.symm hj
      · exact hA
    | cell i c =>
      cases hi : has i ids with
      | true =>
        rw [at_cell, hin i hi] at hA
        obtain ⟨u, k1, k2⟩ := hheap.cells i c A hA hj
        rw [hθ i hi] at k1
        exact ⟨u, k1, hprin i c A u hi k2⟩
      | false =>
        rw [at_cell, hout i hi] at hA
        exact old (fun i' c' hq => by simp only [Org.cell.injEq] at hq; rw [← hq.1]; exact hi) hA
  · intro i c
    cases hi : has i ids with
    | true => rw [hin i hi]; exact hheap.noview i c
    | false => rw [hout i hi]; exact h.heap.noview i c
  · intro n A hA hv
    rw [hslot] at hA
    split at hA
    · subst hA; cases hv
    · rename_i hk
      obtain ⟨v, k1, k2⟩ := h.view n A hA hv
      refine ⟨v, k1, viewRel_of k2 fun o ho => ?_⟩
      have hn : ∀ i c, o = .cell i c → has i ids = false := by
        rintro i c rfl
        cases hq : has i ids with
        | false => rfl
        | true =>
          exfalso
          apply hk
          rw [hA]
          cases A with
          | vw o' k => simp only [AV.views, Org.eq_iff] at ho; subst ho; simpa only [AV.viewsIn] using hq
          | vp o' j off => simp only [AV.views, Org.eq_iff] at ho; subst ho; simpa only [AV.viewsIn] using hq
          | _ => cases ho
      have hsh := viewRel_shown k2 ho
      refine ⟨fun ys hy => ?_, hpv o (shown_junk hsh) hn⟩
      cases o with
      | slot m =>
        rw [at_slot, hslot]
        rw [if_neg]
        · exact hy
        · intro hq
          have := viewsIn_isView hq
          rw [at_slot] at hsh
          cases hs : st1.slot m <;> rw [hs] at this hsh <;> simp [isView, AV.shown] at this hsh
      | cell i c =>
        rw [at_cell, hout i (hn i c rfl)]
        exact hy

end
end Go.Abs
end

section
namespace Go.Abs

section
variable {G : Ctx} {Wr : Nat → Prop} {P : Program}

/-- A larger memory, more of it frozen. -/
theorem Inv.extF {g g' : Gh} {st : St} {tmps : Array Value} {w w' : World} (h : Inv G Wr g st tmps w) (hle : g.F.le g'.F) (hnew : ∀ b, b < w.heap.size → g'.F.cell b = g.F.cell b ∧ g'.F.map b = g.F.map b) (hok : g'.F.ok w') (hθ : ∀ i, st.ent i ≠ none → g'.θ i = g.θ i)
    (how : ∀ b p, g.ow b = some p → b < w.heap.size → g'.ow b = some p) (hh : ∀ b, b < w.heap.size → w'.heap[b]? = w.heap[b]?) (hs : w.heap.size ≤ w'.heap.size) : Inv G Wr g' st tmps w' := by
  have hb := h.heap.toBase
  have hfree : ∀ b, b < w.heap.size → g.F.free b → g'.F.free b := fun b hlt hf => ⟨fun i => by rw [(hnew b hlt).1]; exact hf.cell i, by rw [(hnew b hlt).2]; exact hf.map⟩
  have hpv : ∀ o, st.all.at_ o ≠ .junk → pval g'.θ tmps w' o = pval g.θ tmps w o := by
    intro o ho
    cases o with
    | slot n => rfl
    | cell id c =>
      have he := ent_of_at ho
      simp only [pval, cellVal, hθ id he, hh _ (hb.block he)]
  refine Inv.intro ?_ ?_ h.heap.noview ?_
  · refine { ok := hok, box := ?_, map := ?_, inj := ?_, free := ?_, wr := ?_, big := ?_ }
    · intro id cs he
      have hne : st.ent id ≠ none := by rw [he]; simp
      obtain ⟨cur, ty, h1, h2⟩ := hb.box id cs he
      exact ⟨cur, ty, by rw [hθ id hne, hh _ (hb.block hne)]; exact h1, h2⟩
    · intro id kv he
      have hne : st.ent id ≠ none := by rw [he]; simp
      obtain ⟨es, clock, h1, h2⟩ := hb.map id kv he
      exact ⟨es, clock, by rw [hθ id hne, hh _ (hb.block hne)]; exact h1, h2⟩
    · intro i j hi hj hij
      rw [hθ i hi, hθ j hj] at hij
      exact hb.inj i j hi hj hij
    · intro i hi
      rw [hθ i hi]
      exact hfree _ (hb.block hi) (hb.free i hi)
    · intro i hi hl
      rw [hθ i hi]
      exact hb.wr i hi hl
    · intro b hbs
      exact hb.big b (Nat.le_trans hs hbs)
  · intro o A hA hj hv
    obtain ⟨u, h1, h2⟩ := h.place o A hA hj hv
    refine ⟨u, by rw [hpv o (by rw [hA]; exact hj)]; exact h1, ?_⟩
    refine PRel.mono h2 hle ⟨fun i hi => ⟨hi, hθ i ?_⟩, fun i hi => ⟨hi, hθ i ?_⟩⟩ ?_
    · intro he; rw [he] at hi; cases hi
    · intro he; rw [he] at hi; cases hi
    · intro e xs _ b h3 h4 h5 h6
      exact ⟨hh b h6, how b _ h3 h6, hfree b h6 h4, fun id hid => by rw [hθ id hid]; exact h5 id hid⟩
  · intro n A hA hv
    obtain ⟨v, h1, h2⟩ := h.view n A hA hv
    exact ⟨v, h1, viewRel_of h2 fun o ho => ⟨fun ys hy => hy, hpv o (shown_junk (viewRel_shown h2 ho))⟩⟩

/-- For a while everything may be written. -/
theorem Inv.anyWr {g : Gh} {st : St} {tmps : Array Value} {w : World} (h : Inv G Wr g st tmps w) : Inv G (fun _ => True) g { st with lk := [] } tmps w := by
  have hpr : ∀ p A u, PRel G Wr g st.ent st.lk w p A u → PRel G (fun _ => True) g st.ent [] w p A u := by
    intro p A u hp
    cases A with
    | own e xs =>
      simp only [PRel] at hp ⊢
      rcases hp with hp | ⟨b, cap, cur, ty, size, h1, h2, h3, h4, h5, h6, h7, h8, h9, h10, h11, h12⟩
      · exact .inl hp
      · exact .inr ⟨b, cap, cur, ty, size, h1, h2, h3, h4, h5, h6, h7, h8, h9, h10, h11, fun _ => trivial⟩
    | _ => exact hp
  have hb := h.heap.toBase
  refine Inv.intro { ok := hb.ok, box := hb.box, map := hb.map, inj := hb.inj, free := hb.free, wr := fun _ _ _ => trivial, big := fun _ _ => trivial } ?_ h.heap.noview ?_
  · intro o A hA hj hv
    obtain ⟨u, h1, h2⟩ := h.place o A hA hj hv
    exact ⟨u, h1, hpr _ _ _ h2⟩
  · intro n A hA hv
    obtain ⟨v, h1, h2⟩ := h.view n A hA hv
    exact ⟨v, h1, viewRel_of h2 fun o ho => ⟨fun ys hy => hy, rfl⟩⟩

/-! ## Values that lead nowhere -/

mutual
theorem DV.flat_rep {F F' : Fz} : ∀ (d : DV) (v : Value), d.flat = true → Rep F d v → Rep F' d v
  | .bool b, v, _, h => by simpa only [Rep] using h
  | .int k n, v, _, h => by simpa only [Rep] using h
  | .str s, v, _, h => by simpa only [Rep] using h
  | .nilp, v, _, h => by simpa only [Rep] using h
  | .nilm, v, _, h => by simpa only [Rep] using h
  | .nilf, v, _, h => by simpa only [Rep] using h
  | .nili, v, _, h => by simpa only [Rep] using h
  | .ifc t d, v, hf, h => by
    simp only [Rep] at h ⊢
    obtain ⟨u, hv, hd⟩ := h
    exact ⟨u, hv, DV.flat_rep d u (by simpa only [DV.flat] using hf) hd⟩
  | .agg cs, v, hf, h => by
    simp only [Rep] at h ⊢
    obtain ⟨us, hv, hd⟩ := h
    exact ⟨us, hv, DV.flats_rep cs _ (by simpa only [DV.flat] using hf) hd⟩
  | .ptr _ _, v, hf, h => by simp [DV.flat] at hf
  | .lst _, v, hf, h => by simp [DV.flat] at hf
  | .map _, v, hf, h => by simp [DV.flat] at hf
  | .fn _ _, v, hf, h => by simp [DV.flat] at hf
theorem DV.flats_rep {F F' : Fz} : ∀ (d : List DV) (v : List Value), DV.flats d = true → RepL F d v → RepL F' d v
  | [], v, _, h => by simpa only [RepL] using h
  | d :: r, v, hf, h => by
    simp only [DV.flats, Bool.and_eq_true] at hf
    simp only [RepL] at h ⊢
    obtain ⟨u, l', hl, hd, hr⟩ := h
    exact ⟨u, l', hl, DV.flat_rep d u hf.1 hd, DV.flats_rep r l' hf.2 hr⟩
end
mutual
theorem AV.flat_rel {F F' : Fz} {θ θ' T T'} : ∀ (A : AV) (v : Value), A.flat = true → VRel F θ T A v → VRel F' θ' T' A v
  | .dv d, v, hf, h => by simp only [VRel] at h ⊢; exact DV.flat_rep d v (by simpa only [AV.flat] using hf) h
  | .tup cs, v, hf, h => by
    simp only [VRel] at h ⊢
    obtain ⟨us, hv, hd⟩ := h
    exact ⟨us, hv, AV.flats_rel cs _ (by simpa only [AV.flat] using hf) hd⟩
  | .ptr _ _, v, hf, h => by simp [AV.flat] at hf
  | .own _ _, v, hf, h => by simp [AV.flat] at hf
  | .nils _, v, hf, h => by simp [AV.flat] at hf
  | .vw _ _, v, hf, h => by simp [AV.flat] at hf
  | .vp _ _ _, v, hf, h => by simp [AV.flat] at hf
  | .map _, v, hf, h => by simp [AV.flat] at hf
  | .agg _, v, hf, h => by simp [AV.flat] at hf
  | .ifc _ _, v, hf, h => by simp [AV.flat] at hf
  | .fn _ _, v, hf, h => by simp [AV.flat] at hf
  | .undf, v, hf, h => by simp [AV.flat] at hf
  | .junk, v, hf, h => by simp [AV.flat] at hf
theorem AV.flats_rel {F F' : Fz} {θ θ' T T'} : ∀ (A : List AV) (v : List Value), AV.flats A = true → VRelL F θ T A v → VRelL F' θ' T' A v
  | [], v, _, h => by simpa only [VRelL] using h
  | d :: r, v, hf, h => by
    simp only [AV.flats, Bool.and_eq_true] at hf
    simp only [VRelL] at h ⊢
    obtain ⟨u, l', hl, hd, hr⟩ := h
    exact ⟨u, l', hl, AV.flat_rel d u hf.1 hd, AV.flats_rel r l' hf.2 hr⟩
end
theorem flat_noview {A : AV} (h : A.flat = true) : isView A = false := by cases A <;> simp_all [AV.flat, isView]
theorem flat_noown {A : AV} (h : A.flat = true) : ∀ e xs, A ≠ .own e xs := by rintro e xs rfl; simp [AV.flat] at h

/-! ## Behind a call that changed nothing that was there -/

def freshWr (w : World) (b : Nat) : Prop := w.heap.size ≤ b

theorem Chg.old {base' : Nat} {g g' : Gh} {w w' : World} (h : Chg (freshWr w) base' g w g' w') : ∀ b, b < w.heap.size → w'.heap[b]? = w.heap[b]? := fun b hb => h.heap b (Nat.not_le.2 hb)
theorem Chg.oldF {base' : Nat} {g g' : Gh} {w w' : World} (h : Chg (freshWr w) base' g w g' w') : ∀ b, b < w.heap.size → g'.F.cell b = g.F.cell b ∧ g'.F.map b = g.F.map b := fun b hb => h.new b (Nat.not_le.2 hb)

/-- Only numbers and the like come back: what was is as it was. -/
theorem Inv.back0 {g gc g' : Gh} {st : St} {tmps : Array Value} {w w' : World} {base' : Nat} (h : Inv G Wr g st tmps w) (hc : Chg (freshWr w) base' gc w g' w') : Inv G Wr g st tmps w' :=
  h.ext rfl (fun _ _ => rfl) (fun _ _ hp _ => hp) hc.old hc.size

theorem Chg.back0 {g gc g' : Gh} {w w' : World} {base base' : Nat} (hbig : ∀ b, w.heap.size ≤ b → Wr b) (hc : Chg (freshWr w) base' gc w g' w') : Chg Wr base g w g w' :=
  ⟨.refl _, fun _ _ => ⟨rfl, rfl⟩, fun _ _ => rfl, fun _ _ => rfl, fun b hb => hc.heap b (fun h => hb (hbig b h)), hc.size, hc.os, hc.tape, hc.output⟩

/-- What comes back may lead to what was handed. -/
def Gh.back (g g' : Gh) (n : Nat) (p : Org) : Gh := { F := g'.F, θ := g.θ, ow := fun b => if b < n then g.ow b else some p }

theorem Inv.back2 {g1 g' : Gh} {st1 : St} {tmps : Array Value} {w w' : World} {base' : Nat} (h : Inv G Wr g1 st1 tmps w) (hc : Chg (freshWr w) base' g1 w g' w') (hok : g'.F.ok w') (p : Org) : Inv G Wr (g1.back g' w.heap.size p) st1 tmps w' := by
  refine h.extF hc.le hc.oldF hok (fun _ _ => rfl) (fun b q hq hb => ?_) hc.old hc.size
  simp only [Gh.back]
  rw [if_pos hb]; exact hq

theorem Chg.back2 {g g1 g' : Gh} {w w' : World} {base base' : Nat} {p : Org} (hg : GStep Wr g g1) (hbig : ∀ b, w.heap.size ≤ b → Wr b) (hc : Chg (freshWr w) base' g1 w g' w') : Chg Wr base g w (g1.back g' w.heap.size p) w' := by
  have hlt : ∀ b, ¬ Wr b → b < w.heap.size := fun b hb => Nat.lt_of_not_le fun h => hb (hbig b h)
  refine ⟨hg.le.trans hc.le, fun b hb => ?_, fun b hb => ?_, fun i _ => ?_, fun b hb => hc.old b (hlt b hb), hc.size, hc.os, hc.tape, hc.output⟩
  · exact ⟨(hc.oldF b (hlt b hb)).1.trans (hg.new b hb).1, (hc.oldF b (hlt b hb)).2.trans (hg.new b hb).2⟩
  · simp only [Gh.back]
    rw [if_pos (hlt b hb)]; exact hg.ow b hb
  · show g1.θ i = g.θ i
    rw [hg.θ]

theorem noIds_spec {A : AV} (h : A.noIds = true) : A.ids = [] := by
  unfold AV.noIds at h
  split at h
  · assumption
  · cases h

/-- What comes back, where it stands then. -/
theorem back2_rel {g1 g' : Gh} {st1 : St} {tmps : Array Value} {w w' : World} (h : Inv G Wr g1 st1 tmps w) {T' : Nat → Option Ent} {lk' : List Nat} {r : AV} {v : Value} (hr : PRel G (freshWr w) g' T' lk' w' (.slot 0) r v) (hn : r.noIds = true) (d : Nat) :
    PRel G Wr (g1.back g' w.heap.size (.slot d)) st1.ent st1.lk w' (.slot d) r v := by
  cases r with
  | own e xs =>
    simp only [PRel] at hr ⊢
    rcases hr with hr | ⟨b, cap, cur, ty, size, h1, h2, h3, h4, h5, h6, h7, h8, h9, h10, h11, h12⟩
    · exact .inl hr
    · have hb : w.heap.size ≤ b := h12 rfl
      refine .inr ⟨b, cap, cur, ty, size, h1, h2, h3, h4, h5, h6, h7, h8, ?_, h10, fun id hid => ?_, fun _ => h.heap.big b hb⟩
      · simp only [Gh.back]; rw [if_neg (Nat.not_lt.2 hb)]
      · have := h.heap.toBase.block hid
        show g1.θ id ≠ b
        omega
  | vw o k => exact absurd hr.notView (by simp [isView])
  | vp o j off => exact absurd hr.notView (by simp [isView])
  | _ => exact VRel.sub (T := T') (θ := g'.θ) _ _ (fun i hi => by rw [noIds_spec hn] at hi; cases hi) hr

end
end Go.Abs
end

section
namespace Go.Abs

section
variable {G : Ctx} {Wr : Nat → Prop} {P : Program}

open Classical in
/-- Some blocks' contents, frozen. -/
noncomputable def Fz.more (F : Fz) (w : World) (S : Nat → Prop) : Fz :=
  { cell := fun b i => if S b then w.cell? ⟨b, i, none⟩ else F.cell b i,
    map := fun b => if S b then (match w.heap[b]? with | some (.map es _) => some es | _ => none) else F.map b }

theorem Fz.le_more {F : Fz} {w : World} (h : F.ok w) (S : Nat → Prop) : F.le (F.more w S) := by
  constructor
  · intro b i v hv
    simp only [Fz.more]
    split
    · exact h.cell b i v hv
    · exact hv
  · intro b es hv
    simp only [Fz.more]
    split
    · obtain ⟨clock, hm⟩ := h.map b es hv; rw [hm]
    · exact hv
theorem Fz.ok.more {F : Fz} {w : World} (h : F.ok w) (S : Nat → Prop) : (F.more w S).ok w := by
  constructor
  · intro b i v hv
    simp only [Fz.more] at hv
    split at hv
    · exact hv
    · exact h.cell b i v hv
  · intro b es hv
    simp only [Fz.more] at hv
    split at hv
    · split at hv
      · rename_i es' clock hm
        simp only [Option.some.injEq] at hv; subst hv
        exact ⟨clock, hm⟩
      · cases hv
    · exact h.map b es hv
theorem Fz.more_in {F : Fz} {w : World} {S : Nat → Prop} {b : Nat} (h : S b) : (∀ i, (F.more w S).cell b i = w.cell? ⟨b, i, none⟩) ∧ (F.more w S).map b = (match w.heap[b]? with | some (.map es _) => some es | _ => none) := by
  simp [Fz.more, h]
theorem Fz.more_out {F : Fz} {w : World} {S : Nat → Prop} {b : Nat} (h : ¬ S b) : (F.more w S).cell b = F.cell b ∧ (F.more w S).map b = F.map b := by
  constructor
  · funext i; simp [Fz.more, h]
  · simp [Fz.more, h]

/-- A list of one's own, its row frozen. -/
theorem OwnRel.frozen {g : Gh} {T lk w p e xs u} (h : OwnRel G Wr g T lk w p e xs u) (hok : g.F.ok w) {S : Nat → Prop} (hS : ∀ b n cap, u = .slice (some ⟨b, 0, none⟩) n cap → S b) : Rep (g.F.more w S) (.lst xs) u := by
  simp only [Rep]
  rcases h with ⟨rfl, rfl⟩ | ⟨b, cap, cur, ty, size, h1, h2, rfl, h4, h5, h6, h7, h8, h9, h10, h11, h12⟩
  · exact ⟨none, 0, rfl, Nat.le_refl _, .inl rfl⟩
  · have hb := hS b _ _ rfl
    refine ⟨_, cap, rfl, h4, .inr ⟨b, 0, size, rfl, h7, ?_⟩⟩
    rw [RepElems_iff xs b 0 h7]
    intro j d hj
    obtain ⟨v, hv, hd⟩ := h8 j d hj
    refine ⟨v, ?_, hd.mono (Fz.le_more hok S)⟩
    show (g.F.more w S).cell b (0 + j) = some v
    rw [(Fz.more_in hb).1]
    simp only [Nat.zero_add, World.cell?, h5]
    simpa using hv

theorem freezes_get {tb : Nat → Option Ent} {base : Nat} : ∀ (n : Nat) (cs : List AV) (l : List DV), freezes tb base n cs = some l → l.length = cs.length ∧ ∀ (j : Nat) A, cs[j]? = some A → ∃ m d, m < n ∧ l[j]? = some d ∧ freeze tb base m A = some d
  | 0, cs, l, h => by simp [freezes] at h
  | n + 1, [], l, h => by simp only [freezes, Option.some.injEq] at h; subst h; simp
  | n + 1, A :: r, l, h => by
    simp only [freezes] at h
    split at h
    · rename_i d l' h1 h2
      simp only [Option.some.injEq] at h; subst h
      obtain ⟨k1, k2⟩ := freezes_get n r l' h2
      refine ⟨by simp [k1], fun j B hj => ?_⟩
      cases j with
      | zero => simp at hj; subst hj; exact ⟨n, d, Nat.lt_succ_self _, rfl, h1⟩
      | succ j =>
        obtain ⟨m, d', q1, q2, q3⟩ := k2 j B (by simpa using hj)
        exact ⟨m, d', by omega, by simpa using q2, q3⟩
    · cases h

theorem RepL_of {F : Fz} {l : List DV} {us : List Value} (hl : us.length = l.length) (h : ∀ (j : Nat) d, l[j]? = some d → ∃ v, us[j]? = some v ∧ Rep F d v) : RepL F l us := (RepL_iff l us).2 ⟨hl, h⟩

theorem RepKv_of {F : Fz} : ∀ (ks : List ByteArray) (l : List DV) (es : List MapEntry), es.length = ks.length → l.length = ks.length → es.map (·.key) = ks.map Value.string → (∀ (j : Nat) d, l[j]? = some d → ∃ e, es[j]? = some e ∧ Rep F d e.val) → RepKv F (ks.zip l) es
  | [], l, es, h1, h2, h3, h4 => by
    have : es = [] := List.eq_nil_of_length_eq_zero (by simpa using h1)
    subst this; simp [RepKv]
  | k :: ks, [], es, h1, h2, h3, h4 => by simp at h2
  | k :: ks, d :: l, [], h1, h2, h3, h4 => by simp at h1
  | k :: ks, d :: l, e :: es, h1, h2, h3, h4 => by
    simp only [List.map_cons, List.cons.injEq] at h3
    obtain ⟨e', he', hd⟩ := h4 0 d rfl
    simp at he'; subst he'
    simp only [List.zip_cons_cons, RepKv]
    exact ⟨e, es, rfl, h3.1, hd, RepKv_of ks l es (by simpa using h1) (by simpa using h2) h3.2 (fun j d' hj => by simpa using h4 (j + 1) d' (by simpa using hj))⟩

/-- Boxes and what they lead to, frozen. -/
theorem freeze_rep {g : Gh} {T : Nat → Option Ent} {lk : List Nat} {w : World} {base : Nat} (h : Heap G Wr g T lk w) {S : Nat → Prop} (hS1 : ∀ id, base ≤ id → T id ≠ none → S (g.θ id))
    (hS2 : ∀ p e xs b n cap, (∀ id c, p = .cell id c → base ≤ id) → OwnRel G Wr g T lk w p e xs (.slice (some ⟨b, 0, none⟩) n cap) → S b) :
    ∀ (n : Nat) (A : AV) (d : DV) (v : Value) (p : Org), freeze T base n A = some d → (∀ id c, p = .cell id c → base ≤ id) → PRel G Wr g T lk w p A v → Rep (g.F.more w S) d v := by
  intro n
  induction n using Nat.strongRecOn with
  | _ n ih =>
  intro A d v p hf hp hr
  have hle := Fz.le_more h.ok S
  -- lists of values
  have list : ∀ m, m < n → ∀ (cs : List AV) (l : List DV) (us : List Value), freezes T base m cs = some l → VRelL g.F g.θ T cs us → RepL (g.F.more w S) l us := by
    intro m hm cs l us hl hc
    obtain ⟨k1, k2⟩ := freezes_get m cs l hl
    rw [VRelL_iff] at hc
    refine RepL_of (hc.1.trans k1.symm) fun j d hj => ?_
    have hjl : j < cs.length := by rw [← k1]; exact (List.getElem?_eq_some_iff.1 hj).1
    obtain ⟨m', d', q1, q2, q3⟩ := k2 j _ (List.getElem?_eq_getElem hjl)
    rw [hj] at q2
    simp only [Option.some.injEq] at q2; subst q2
    obtain ⟨u, u1, u2⟩ := hc.2 j _ (List.getElem?_eq_getElem hjl)
    exact ⟨u, u1, ih m' (by omega) _ d u (.slot 0) q3 (by simp) (PRel.of_vrel u2)⟩
  cases n with
  | zero => simp [freeze] at hf
  | succ n =>
  cases A with
  | dv d' =>
    simp only [freeze, Option.some.injEq] at hf; subst hf
    simp only [PRel, VRel] at hr
    exact hr.mono hle
  | nils e =>
    simp only [freeze, Option.some.injEq] at hf; subst hf
    simp only [PRel, VRel] at hr; subst hr
    simp only [Rep]
    exact ⟨none, 0, rfl, Nat.le_refl _, .inl trivial⟩
  | own e xs =>
    simp only [freeze, Option.some.injEq] at hf; subst hf
    simp only [PRel] at hr
    exact hr.frozen h.ok fun b n cap hu => hS2 p e xs b n cap hp (hu ▸ hr)
  | ptr id off =>
    simp only [PRel, VRel] at hr
    simp only [freeze, ble_dec] at hf
    by_cases hb : base ≤ id
    · simp only [hb, decide_true, cond_true] at hf
      split at hf
      · rename_i cs hT
        split at hf
        · rename_i l hl
          simp only [Option.some.injEq] at hf; subst hf
          obtain ⟨k1, k2⟩ := freezes_get n cs l hl
          have hS := hS1 id hb (by rw [hT]; simp)
          obtain ⟨cur, ty, m1, m2⟩ := h.box id cs hT
          simp only [Rep]
          refine ⟨g.θ id, 0, by rw [Nat.zero_add]; exact hr.1, (RepRow_iff _ _ _).2 fun j d hj => ?_⟩
          have hjl : j < cs.length := by rw [← k1]; exact (List.getElem?_eq_some_iff.1 hj).1
          obtain ⟨m', d', q1, q2, q3⟩ := k2 j _ (List.getElem?_eq_getElem hjl)
          rw [hj] at q2
          simp only [Option.some.injEq] at q2; subst q2
          have hat : cellOf (T id) j = cs[j] := by rw [hT]; simp [cellOf, hjl]
          have hnj : cs[j] ≠ .junk := by
            intro hq; rw [hq] at q3
            cases m' <;> simp [freeze] at q3
          obtain ⟨u, u1, u2⟩ := h.cells id j _ hat hnj
          refine ⟨u, ?_, ih m' (by omega) _ d u (.cell id j) q3 (fun id' c hq => by simp only [Org.cell.injEq] at hq; rw [← hq.1]; exact hb) u2⟩
          show (g.F.more w S).cell (g.θ id) (0 + j) = some u
          rw [(Fz.more_in hS).1]
          simp only [cellVal, m1] at u1
          simp only [World.cell?, m1, Nat.zero_add]
          simpa using u1
        · cases hf
      · cases hf
    · simp [hb] at hf
  | map id =>
    simp only [PRel, VRel] at hr
    simp only [freeze, ble_dec] at hf
    by_cases hb : base ≤ id
    · simp only [hb, decide_true, cond_true] at hf
      split at hf
      · rename_i kv hT
        split at hf
        · rename_i l hl
          simp only [Option.some.injEq] at hf; subst hf
          obtain ⟨k1, k2⟩ := freezes_get n (kv.map (·.2)) l hl
          simp only [List.length_map] at k1
          have hS := hS1 id hb (by rw [hT]; simp)
          obtain ⟨es, clock, m1, m2⟩ := h.map id kv hT
          have hel : es.toList.length = kv.length := by have := congrArg List.length m2; simpa using this
          simp only [Rep]
          refine ⟨g.θ id, es, hr.1, by rw [(Fz.more_in hS).2, m1], RepKv_of _ _ _ (by simpa using hel) (by simpa using k1) (by rw [m2, List.map_map]; rfl) fun j d hj => ?_⟩
          have hjl : j < kv.length := by rw [← k1]; exact (List.getElem?_eq_some_iff.1 hj).1
          obtain ⟨m', d', q1, q2, q3⟩ := k2 j kv[j].2 (by simp [hjl])
          rw [hj] at q2
          simp only [Option.some.injEq] at q2; subst q2
          have hat : cellOf (T id) j = kv[j].2 := by rw [hT]; simp [cellOf, hjl]
          have hnj : kv[j].2 ≠ .junk := by
            intro hq; rw [hq] at q3
            cases m' <;> simp [freeze] at q3
          obtain ⟨u, u1, u2⟩ := h.cells id j _ hat hnj
          have hje : j < es.toList.length := by omega
          have hrep := ih m' (by omega) _ d u (.cell id j) q3 (fun id' c hq => by simp only [Org.cell.injEq] at hq; rw [← hq.1]; exact hb) u2
          refine ⟨es.toList[j], List.getElem?_eq_getElem hje, ?_⟩
          simp only [cellVal, m1] at u1
          have : es[j]? = some es.toList[j] := by rw [← Array.getElem?_toList]; exact List.getElem?_eq_getElem hje
          rw [this] at u1
          simp only [Option.map_some, Option.some.injEq] at u1
          rw [u1]; exact hrep
        · cases hf
      · cases hf
    · simp [hb] at hf
  | agg cs =>
    simp only [freeze] at hf
    split at hf
    · rename_i l hl
      simp only [Option.some.injEq] at hf; subst hf
      simp only [PRel, VRel] at hr
      obtain ⟨us, hv, hc⟩ := hr
      simp only [Rep]
      exact ⟨us, hv, list n (Nat.lt_succ_self _) cs l _ hl hc⟩
    · cases hf
  | fn f cs =>
    simp only [freeze] at hf
    split at hf
    · rename_i l hl
      simp only [Option.some.injEq] at hf; subst hf
      simp only [PRel, VRel] at hr
      obtain ⟨us, hv, hc⟩ := hr
      simp only [Rep]
      exact ⟨us, hv, list n (Nat.lt_succ_self _) cs l _ hl hc⟩
    · cases hf
  | ifc t B =>
    simp only [freeze] at hf
    split at hf
    · rename_i d' hd
      simp only [Option.some.injEq] at hf; subst hf
      simp only [PRel, VRel] at hr
      obtain ⟨u, hv, hc⟩ := hr
      simp only [Rep]
      exact ⟨u, hv, ih n (Nat.lt_succ_self _) B d' u (.slot 0) hd (by simp) (PRel.of_vrel hc)⟩
    · cases hf
  | vw o k => simp [freeze] at hf
  | vp o j off => simp [freeze] at hf
  | tup vs => simp [freeze] at hf
  | undf => simp [freeze] at hf
  | junk => simp [freeze] at hf

theorem freezes_rep {g : Gh} {T : Nat → Option Ent} {lk : List Nat} {w : World} {base : Nat} (h : Heap G Wr g T lk w) {S : Nat → Prop} (hS1 : ∀ id, base ≤ id → T id ≠ none → S (g.θ id))
    (hS2 : ∀ p e xs b n cap, (∀ id c, p = .cell id c → base ≤ id) → OwnRel G Wr g T lk w p e xs (.slice (some ⟨b, 0, none⟩) n cap) → S b) {n : Nat} {cs : List AV} {l : List DV} {us : List Value} (hl : freezes T base n cs = some l) (hlen : us.length = cs.length)
    (hc : ∀ (j : Nat) A, cs[j]? = some A → A ≠ .junk → ∃ u p, us[j]? = some u ∧ (∀ id c, p = Org.cell id c → base ≤ id) ∧ PRel G Wr g T lk w p A u) : RepL (g.F.more w S) l us := by
  obtain ⟨k1, k2⟩ := freezes_get n cs l hl
  refine RepL_of (hlen.trans k1.symm) fun j d hj => ?_
  have hjl : j < cs.length := by rw [← k1]; exact (List.getElem?_eq_some_iff.1 hj).1
  obtain ⟨m', d', q1, q2, q3⟩ := k2 j _ (List.getElem?_eq_getElem hjl)
  rw [hj] at q2
  simp only [Option.some.injEq] at q2; subst q2
  have hnj : cs[j] ≠ .junk := by
    intro hq; rw [hq] at q3
    cases m' <;> simp [freeze] at q3
  obtain ⟨u, p, u1, u2, u3⟩ := hc j _ (List.getElem?_eq_getElem hjl) hnj
  exact ⟨u, u1, freeze_rep h hS1 hS2 m' _ d u p q3 u2 u3⟩

end
end Go.Abs
end

section
namespace Go.Abs

section
variable {G : Ctx} {Wr : Nat → Prop} {P : Program} {Gl : Fz → Prop} {call : CallF}
variable {g : Gh} {V : Vw} {st : St} {a : Act} {w : World} {base base' nt : Nat}

/-- A call, ahead of it. -/
theorem run_call {o : Oper} {c : Call} {fo : Operand} {f : FuncId} {us : Array Value} (ho : o.op = .call c) (hc : c.callee = .value fo) (hf : a.eval fo = .func (.func f) #[] us) (he : Enters P f) :
    (execOp a.eval o).run P w = .ok (.enter f (c.args.map a.eval ++ us)) w := by
  obtain ⟨fn, h1, h2, h3⟩ := he
  simp only [beq_eq_false_iff_ne, ne_eq] at h2
  simp [execOp, ho, resolve, hc, hf, Deferred.ofValue, invoke, callFunc, h1, h2]
  intro hb
  rw [hb] at h3
  cases h3

theorem good_call {o : Oper} {out : Out} {f : FuncId} {vs : Array Value} (hexec : (execOp a.eval o).run P w = .ok (.enter f vs) w) (hsz : a.tmps.size = nt) (hd : okDst nt o.dst = true) {g0 : Gh}
    (hcalls : Calls P f vs w fun e w' => ∃ v, e = .returned v ∧ ∃ g1 st1, Inv G Wr g1 st1 a.tmps w' ∧ Chg Wr base g0 w g1 w' ∧ st.put o.dst out = (match o.dst with | some d => st1.setSlot d out.v | none => st1) ∧
      (∀ d, o.dst = some d → PRel G Wr g1 st1.ent st1.lk w' (.slot d) out.v v)) : Good G Wr P base g0 st a w o out := by
  intro next Q hn
  unfold Oper.wp
  rw [hexec, Oper.upon_enter]
  refine Calls.mono hcalls ?_
  rintro e w' ⟨v, rfl, g1, st1, h1, h2, h3, h4⟩
  refine hn g1 _ w' ?_ h2 (Act.put_defers' _ _ _) (Act.put_size _ _ _)
  rw [h3, put_tmps]
  cases hdst : o.dst with
  | none => exact h1
  | some d =>
    have hlt : d < a.tmps.size := by
      rw [hsz]
      simpa [okDst, hdst, blt_dec] using hd
    refine h1.setSlot hlt ?_
    have := h4 d hdst
    simp only [this.notView, Bool.false_eq_true, if_false]
    intro _
    exact this

/-! ## What is handed -/

theorem repL_vrelL {F : Fz} {θ T} : ∀ {ds : List DV} {us : List Value}, RepL F ds us → VRelL F θ T (ds.map .dv) us
  | [], us, h => by simp only [RepL] at h; subst h; simp [VRelL]
  | d :: r, us, h => by
    simp only [RepL] at h
    obtain ⟨v, l', rfl, hd, hr⟩ := h
    simp only [List.map_cons, VRelL]
    exact ⟨v, l', rfl, by simpa only [VRel] using hd, repL_vrelL hr⟩

theorem VRelL.append {F : Fz} {θ T} : ∀ {a b : List AV} {us vs : List Value}, VRelL F θ T a us → VRelL F θ T b vs → VRelL F θ T (a ++ b) (us ++ vs)
  | [], b, us, vs, h, k => by simp only [VRelL] at h; subst h; exact k
  | x :: r, b, us, vs, h, k => by
    simp only [VRelL] at h
    obtain ⟨v, l', rfl, hd, hr⟩ := h
    simp only [List.cons_append, VRelL]
    exact ⟨v, l' ++ vs, rfl, hd, VRelL.append hr k⟩

theorem resolveF_rel (hV : Shows V st) (h : Inv G Wr g st a.tmps w) {fo : Operand} {f : FuncId} {caps : List AV} (hr : resolveF V fo = some (f, caps)) :
    ∃ us : Array Value, a.eval fo = .func (.func f) #[] us ∧ VRelL g.F g.θ st.ent caps us.toList := by
  unfold resolveF at hr
  split at hr
  · rename_i h' cs hx
    simp only [Option.some.injEq, Prod.mk.injEq] at hr
    obtain ⟨rfl, rfl⟩ := hr
    have := opnd_rel hV h hx (by simp) rfl
    simp only [VRel, Rep] at this
    obtain ⟨us, h1, h2⟩ := this
    exact ⟨us, h1, repL_vrelL h2⟩
  · rename_i h' cs hx
    simp only [Option.some.injEq, Prod.mk.injEq] at hr
    obtain ⟨rfl, rfl⟩ := hr
    have := opnd_rel hV h hx (by simp) rfl
    simpa only [VRel] using this
  · cases hr

/-- What is handed, where what is lent is frozen. -/
theorem handed (hV : Shows V st) (h : Inv G Wr g st a.tmps w) {xs : List Operand} {as caps : List AV} {us : List Value} {lent : List Org} (hx : argsOf V xs = some (as, lent)) (hc : VRelL g.F g.θ st.ent caps us) {g1 : Gh} {st1 : St} (hg : GStep Wr g g1) (h1 : Inv G Wr g1 st1 a.tmps w) (hd : Done lent st st1) :
    VRelL g1.F g1.θ st1.ent (as ++ caps) (xs.map a.eval ++ us) := by
  refine VRelL.append (argsOf_rel hV h hx hg h1 hd (fun _ ho => ho)) ?_
  exact VRelL.mono hg.le (by rw [hg.θ]; exact hd.toFrz.kept g.θ) _ _ hc

theorem argsOf_lk (V : Vw) : ∀ xs : List Operand, argsOf { V with lk := [] } xs = argsOf V xs
  | [] => rfl
  | x :: r => by
    have h1 : arg { V with lk := [] } x = arg V x := by
      unfold arg
      rfl
    simp only [argsOf, h1, argsOf_lk V r]

/-- The state with nothing locked. -/
theorem Shows.nolk (hV : Shows V st) : Shows { V with lk := [] } { st with lk := [] } := ⟨hV.sl, hV.get, rfl⟩

/-- What is handed, for a while frozen whether it may be or not. -/
theorem handed_any (hV : Shows V st) (h : Inv G Wr g st a.tmps w) {xs : List Operand} {as caps : List AV} {us : List Value} {lent : List Org} (hx : argsOf V xs = some (as, lent)) (hc : VRelL g.F g.θ st.ent caps us) :
    ∃ g1 st1, GStep (fun _ => True) g g1 ∧ Inv G (fun _ => True) g1 st1 a.tmps w ∧ VRelL g1.F g1.θ st1.ent (as ++ caps) (xs.map a.eval ++ us) ∧ (∀ i, (∀ o ∈ lent, ∀ c, o ≠ .cell i c) → st1.ent i = st.ent i) := by
  have h0 := h.anyWr
  obtain ⟨g1, k1, _, k3, k4⟩ := h0.freezeAll lent (fun o _ => by cases o <;> simp [Vw.locked, St.all, has])
  refine ⟨g1, _, k1, k3, handed hV.nolk h0 (by rw [argsOf_lk]; exact hx) hc k1 k3 k4, fun i hi => ?_⟩
  have := ent_freezeAll lent { st with lk := [] } i hi
  rw [this]
  rfl

theorem closed_spec {ids : List Nat} {all : List AV} {tb : List (Nat × Ent)} (h : closed ids all tb = true) : (∀ i ∈ AV.idss all, has i ids = true) ∧ (∀ i ∈ tbIds tb, has i ids = true) := by
  unfold closed at h
  simp only [Bool.and_eq_true] at h
  exact ⟨allIn_spec h.1, allIn_spec h.2⟩

theorem sub_tb (hV : Shows V st) {ids : List Nat} {tb : List (Nat × Ent)} (he : entsOf V ids = some tb) {st1 : St} (hsame : ∀ i, has i ids = true → st1.ent i = st.ent i) :
    (∀ i e, find i tb = some e → has i ids = true ∧ st1.ent i = some e) ∧ (∀ i, has i ids = true → find i tb = st1.ent i ∧ st1.ent i ≠ none) := by
  refine ⟨fun i e hi => ?_, fun i hi => ?_⟩
  · obtain ⟨k1, k2⟩ := entsOf_find he i
    cases hh : has i ids with
    | false => rw [k2 hh] at hi; cases hi
    | true =>
      obtain ⟨e', m1, m2⟩ := k1 hh
      rw [hi] at m2
      simp only [Option.some.injEq] at m2; subst m2
      exact ⟨rfl, by rw [hsame i hh]; exact hV.get i _ m1⟩
  · obtain ⟨e', m1, m2⟩ := (entsOf_find he i).1 hi
    have : st1.ent i = some e' := by rw [hsame i hi]; exact hV.get i _ m1
    exact ⟨by rw [m2, this], by rw [this]; simp⟩

theorem sameEnts_spec : ∀ {tb tb' : List (Nat × Ent)}, sameEnts tb tb' = true → ∀ i, (find i tb = none → find i tb' = none) ∧ (∀ e, find i tb = some e → ∃ e', find i tb' = some e' ∧ isBoxE (some e') = isBoxE (some e) ∧ isMapE (some e') = isMapE (some e))
  | [], [], _, i => by simp [find]
  | [], (_, _) :: _, h, i => by simp [sameEnts] at h
  | (k, .box cs) :: r, [], h, i => by simp [sameEnts] at h
  | (k, .map cs) :: r, [], h, i => by simp [sameEnts] at h
  | (k, .box cs) :: r, (j, .box cs') :: l, h, i => by
    simp only [sameEnts] at h
    obtain ⟨h1, h2⟩ : Nat.beq k j = true ∧ sameEnts r l = true := by cases hb : Nat.beq k j <;> simp_all
    rw [beq_dec] at h1
    have hkj : k = j := by simpa using h1
    subst hkj
    simp only [find_cons]
    by_cases hi : k = i
    · simp only [hi, if_true]
      refine ⟨by simp, fun e he => ⟨_, rfl, ?_⟩⟩
      simp only [Option.some.injEq] at he; subst he
      exact ⟨rfl, rfl⟩
    · simp only [hi, if_false]; exact sameEnts_spec h2 i
  | (k, .map cs) :: r, (j, .map cs') :: l, h, i => by
    simp only [sameEnts] at h
    obtain ⟨h1, h2⟩ : Nat.beq k j = true ∧ sameEnts r l = true := by cases hb : Nat.beq k j <;> simp_all
    rw [beq_dec] at h1
    have hkj : k = j := by simpa using h1
    subst hkj
    simp only [find_cons]
    by_cases hi : k = i
    · simp only [hi, if_true]
      refine ⟨by simp, fun e he => ⟨_, rfl, ?_⟩⟩
      simp only [Option.some.injEq] at he; subst he
      exact ⟨rfl, rfl⟩
    · simp only [hi, if_false]; exact sameEnts_spec h2 i
  | (k, .box cs) :: r, (j, .map cs') :: l, h, i => by simp [sameEnts] at h
  | (k, .map cs) :: r, (j, .box cs') :: l, h, i => by simp [sameEnts] at h

theorem killIn_none (p : AV → Bool) (hp : ∀ A, p A = false) : ∀ l : List (Nat × AV), killIn p l = l
  | [] => rfl
  | (t, v) :: r => by simp [killIn, hp v, killIn_none p hp r]

theorem put_call (st : St) (dst : Option Nat) (v : AV) (f : List Org) (ids : List Nat) (tb' : List (Nat × Ent)) : st.put dst { v := v, frz := f, kids := ids, ents := tb' } = match dst with
    | some d => (backSt (f.foldl St.freeze1 st) ids tb').setSlot d v
    | none => backSt (f.foldl St.freeze1 st) ids tb' := by
  have h0 : ∀ s : St, killIn (AV.viewsIn []) s.sl = s.sl := fun s => killIn_none _ (fun A => by
    cases A with
    | vw o k => cases o <;> rfl
    | vp o j off => cases o <;> rfl
    | _ => rfl) _
  unfold St.put backSt
  cases ids <;> cases tb' <;> simp only [h0] <;> rfl

theorem chg_weaken {g g' : Gh} {w w' : World} (h : Chg Wr base' g w g' w') (hb : base ≤ base') : Chg Wr base g w g' w' :=
  ⟨h.le, h.new, h.ow, fun i hi => h.θ i (by omega), h.heap, h.size, h.os, h.tape, h.output⟩

end
end Go.Abs
end

section
namespace Go.Abs

section
variable {G : Ctx} {Wr : Nat → Prop} {P : Program} {Gl : Fz → Prop} {call : CallF}
variable {g : Gh} {V : Vw} {st : St} {a : Act} {w : World} {base base' nt : Nat}

/-- What a call that may change the boxes it is handed comes to. -/
theorem call1_good (hcall : CallsOK G P Gl call) (hup : ∀ F F', F.le F' → Gl F → Gl F') (hV : Shows V st) (h : Inv G Wr g st a.tmps w) (hgl : Gl g.F) {ids : List Nat} {f : FuncId} {xs : List Operand} {as caps : List AV} {us : Array Value} {lent : List Org} {out : Out}
    (hx : argsOf V xs = some (as, lent)) (hc : VRelL g.F g.θ st.ent caps us.toList) (hbb : base ≤ base') (hm : callOut1 call V ids base' f (as ++ caps) lent = some out) {o : Oper} (hsz : a.tmps.size = nt) (hd : okDst nt o.dst = true)
    (hexec : Enters P f → (execOp a.eval o).run P w = .ok (.enter f ((xs.map a.eval).toArray ++ us)) w) : Good G Wr P base g st a w o out := by
  unfold callOut1 at hm
  cases hl : lends ids lent || anyLocked V lent with
  | true => rw [hl] at hm; cases hm
  | false =>
    rw [hl] at hm
    simp only [cond_false] at hm
    simp only [Bool.or_eq_false_iff] at hl
    split at hm
    · rename_i tb htb
      have hcs := cond_some hm
      clear hm
      obtain ⟨hcond, hm⟩ := hcs
      simp only [Bool.and_eq_true] at hcond
      obtain ⟨⟨hcl, hbl⟩, hdj⟩ := hcond
      split at hm
      · rename_i v tb' hv
        have hcs := cond_some hm
        clear hm
        obtain ⟨hsame, hm⟩ := hcs
        simp only [Option.some.injEq] at hm; subst hm
        obtain ⟨hent, hok⟩ := hcall _ _ _ _ _ _ _ hv
        have hlu := anyLocked_spec hl.2
        obtain ⟨g1, k1, _, k3, k4⟩ := h.freezeAll lent (fun p hp => by rw [hV.locked]; exact hlu p hp)
        have hargs := handed hV h hx hc k1 k3 k4
        have hsameE : ∀ i, has i ids = true → (lent.foldl St.freeze1 st).ent i = st.ent i := fun i hi => ent_freezeAll lent st i (fun o ho c hoc => by rw [lends_spec hl.1 o ho i c hoc] at hi; cases hi)
        generalize hst1 : lent.foldl St.freeze1 st = st1 at k3 k4 hargs hsameE
        obtain ⟨t1, t2⟩ := sub_tb hV htb hsameE
        obtain ⟨c1, c2⟩ := closed_spec hcl
        have hlk : st1.lk = st.lk := k4.lk
        have hdis : ∀ i, has i ids = true → has i st1.lk = false := fun i hi => by rw [hlk, ← hV.lk]; exact disj_spec hdj i hi
        have hids : ∀ i, has i ids = true → st1.ent i ≠ none := fun i hi => (t2 i hi).2
        have hin : ∀ i, find i tb ≠ none → has i ids = true := by
          intro i hi
          cases he : find i tb with
          | none => exact absurd he hi
          | some e => exact (t1 i e he).1
        have hheap : Heap G (HWr g1 st1.ent ids w) g1 (fun i => find i tb) [] w := by
          refine k3.heap.sub (fun i e hi => (t1 i e hi).2) (closed_cells ?_) ?_ (fun b hb => .inl hb) ?_
          · intro i e hi j hj
            rw [(t2 j (c2 j (tbIds_mem (find_mem hi) j hj))).1]
            exact (t2 j (c2 j (tbIds_mem (find_mem hi) j hj))).2
          · intro i hi _
            exact .inr (.inl ⟨i, hin i hi, hids i (hin i hi), rfl⟩)
          · intro i c e xs n cap b _ hi hcell hval
            refine .inr (.inr ⟨i, c, e, xs, n, cap, hin i hi, ?_, hval⟩)
            rw [← (t2 i (hin i hi)).1]; exact hcell
        have hcalls := hok (HWr g1 st1.ent ids w) g1 w ((xs.map a.eval).toArray ++ us) (hup _ _ k1.le hgl) hheap
          (by simpa using VRelL.sub _ _ (fun i hi => ⟨(t2 i (c1 i hi)).1, rfl⟩) hargs) (fun i hi => below_spec hbl i (hin i hi)) (by simp [has])
        refine good_call (hexec hent) hsz hd (Calls.mono hcalls ?_)
        rintro e w' ⟨u, rfl, g', q1, q2, q3⟩
        have hkind : ∀ i, has i ids = true → ∃ e, find i tb' = some e ∧ isBoxE (some e) = isBoxE (st1.ent i) ∧ isMapE (some e) = isMapE (st1.ent i) := by
          intro i hi
          obtain ⟨m1, m2⟩ := t2 i hi
          cases he : find i tb with
          | none => rw [he] at m1; exact absurd m1.symm m2
          | some e =>
            obtain ⟨e', n1, n2, n3⟩ := (sameEnts_spec hsame i).2 e he
            exact ⟨e', n1, by rw [n2, ← m1, he], by rw [n3, ← m1, he]⟩
        have hnone : ∀ i, has i ids = false → find i tb' = none := by
          intro i hi
          refine (sameEnts_spec hsame i).1 ?_
          cases he : find i tb with
          | none => rfl
          | some e => rw [(t1 i e he).1] at hi; cases hi
        obtain ⟨g'', r1, r2, r3, r4, r5, r6, r7⟩ := k3.back1 hids (fun i hi => below_spec hbl i hi) q1 q2 hkind hnone hdis (.slot (o.dst.getD 0))
        refine ⟨u, rfl, g'', _, r7, ?_, by rw [put_call, hst1]; rfl, ?_⟩
        · have hwr : ∀ b, ¬ Wr b → ¬ HWr g1 st1.ent ids w b := fun b hb hH => hb (HWr.wr k3.heap hdis hH)
          refine ⟨by rw [r1]; exact k1.le.trans q1.le, fun b hb => ?_, fun b hb => ?_, fun i _ => by rw [r2, k1.θ], fun b hb => q1.heap b (hwr b hb), q1.size, q1.os, q1.tape, q1.output⟩
          · rw [r1]; exact ⟨(q1.new b (hwr b hb)).1.trans (k1.new b hb).1, (q1.new b (hwr b hb)).2.trans (k1.new b hb).2⟩
          · rw [r3 b (hwr b hb)]; exact k1.ow b hb
        · intro d hdst
          have hgo : o.dst.getD 0 = d := by rw [hdst]; rfl
          rw [hgo] at r4
          cases v with
          | own e xs =>
            simp only [PRel] at q3 ⊢
            rcases q3 with q3 | ⟨b, cap, cur, ty, size, m1, m2, m3, m4, m5, m6, m7, m8, m9, m10, m11, m12⟩
            · exact .inl q3
            · have hH : HWr g1 st1.ent ids w b := m12 rfl
              refine .inr ⟨b, cap, cur, ty, size, m1, m2, m3, m4, m5, m6, m7, by rw [r1]; exact m8, r4 b hH m9, by rw [r1]; exact m10, fun id hid => ?_, fun _ => HWr.wr k3.heap hdis hH⟩
              rw [r2]
              cases hq : has id ids with
              | true =>
                rw [← q1.θ id (below_spec hbl id hq)]
                exact m11 id (by obtain ⟨e, he, _⟩ := hkind id hq; simp [he])
              | false =>
                intro hb'
                exact HWr.box k3.heap ((r6 id).1 hid) hq (hb' ▸ hH)
          | vw o k => exact absurd q3.notView (by simp [isView])
          | vp o j off => exact absurd q3.notView (by simp [isView])
          | _ => exact VRel.mono (by rw [r1]; exact .refl _) r5 _ _ q3
      · cases hm
    · cases hm

/-- What a call that leaves all that was there as it was comes to: only numbers and the like, or what is its own. -/
theorem quiet_good {f : FuncId} {all : List AV} {vs : Array Value} {tb : List (Nat × Ent)} {lk' : List Nat} (hcall : CallsOK G P Gl call) (hup : ∀ F F', F.le F' → Gl F → Gl F') (h : Inv G Wr g st a.tmps w) (hgl : Gl g.F) {lent : List Org} {v : AV} {tb' : List (Nat × Ent)}
    (hv : call f all tb lk' base' = some (v, tb')) (hflat : v.flat = true) {g1 : Gh} (hle : g.F.le g1.F) (hheap : Heap G (freshWr w) g1 (fun i => find i tb) lk' w) (hargs : VRelL g1.F g1.θ (fun i => find i tb) all vs.toList) (hb1 : ∀ i, find i tb ≠ none → i < base') (hb2 : ∀ i, has i lk' = true → i < base')
    {o : Oper} (hsz : a.tmps.size = nt) (hd : okDst nt o.dst = true) (hexec : Enters P f → (execOp a.eval o).run P w = .ok (.enter f vs) w) : Good G Wr P base g st a w o { v := v } := by
  obtain ⟨hent, hok⟩ := hcall _ _ _ _ _ _ _ hv
  refine good_call (hexec hent) hsz hd (Calls.mono (hok (freshWr w) g1 w vs (hup _ _ hle hgl) hheap hargs hb1 hb2) ?_)
  rintro e w' ⟨u, rfl, g', q1, q2, q3⟩
  refine ⟨u, rfl, g, st, h.back0 q1, Chg.back0 h.heap.big q1, put_v _ _ _, fun d _ => ?_⟩
  have hr : VRel g.F g.θ st.ent v u := by
    cases v with
    | own e xs => exact absurd rfl (flat_noown hflat e xs)
    | vw o k => exact absurd q3.notView (by simp [isView])
    | vp o j off => exact absurd q3.notView (by simp [isView])
    | _ => exact AV.flat_rel (F := g'.F) (θ := g'.θ) (T := fun i => find i tb') _ _ hflat q3
  exact PRel.of_vrel hr

theorem quiet_good2 {f : FuncId} {all : List AV} {vs : Array Value} {tb : List (Nat × Ent)} {lk' : List Nat} (hcall : CallsOK G P Gl call) (hup : ∀ F F', F.le F' → Gl F → Gl F') (h : Inv G Wr g st a.tmps w) (hgl : Gl g.F) {lent : List Org} {v : AV} {tb' : List (Nat × Ent)}
    (hv : call f all tb lk' base' = some (v, tb')) (hno : v.noIds = true) {g1 : Gh} (hg : GStep Wr g g1) (h1 : Inv G Wr g1 (lent.foldl St.freeze1 st) a.tmps w) (hheap : Heap G (freshWr w) g1 (fun i => find i tb) lk' w) (hargs : VRelL g1.F g1.θ (fun i => find i tb) all vs.toList) (hb1 : ∀ i, find i tb ≠ none → i < base') (hb2 : ∀ i, has i lk' = true → i < base')
    {o : Oper} (hsz : a.tmps.size = nt) (hd : okDst nt o.dst = true) (hexec : Enters P f → (execOp a.eval o).run P w = .ok (.enter f vs) w) : Good G Wr P base g st a w o { v := v, frz := lent } := by
  obtain ⟨hent, hok⟩ := hcall _ _ _ _ _ _ _ hv
  refine good_call (hexec hent) hsz hd (Calls.mono (hok (freshWr w) g1 w vs (hup _ _ hg.le hgl) hheap hargs hb1 hb2) ?_)
  rintro e w' ⟨u, rfl, g', q1, q2, q3⟩
  refine ⟨u, rfl, _, _, h1.back2 q1 q2.ok (.slot (o.dst.getD 0)), Chg.back2 hg h.heap.big q1, put_f _ _ _ _, fun d hdst => ?_⟩
  have hgo : o.dst.getD 0 = d := by rw [hdst]; rfl
  rw [hgo]
  exact back2_rel h1 q3 hno d

theorem call2_good (hcall : CallsOK G P Gl call) (hup : ∀ F F', F.le F' → Gl F → Gl F') (hV : Shows V st) (h : Inv G Wr g st a.tmps w) (hgl : Gl g.F) {ids : List Nat} {f : FuncId} {xs : List Operand} {as caps : List AV} {us : Array Value} {lent : List Org} {out : Out}
    (hx : argsOf V xs = some (as, lent)) (hc : VRelL g.F g.θ st.ent caps us.toList) (hbb : base ≤ base') (hm : callOut2 call V ids base' f (as ++ caps) lent = some out) {o : Oper} (hsz : a.tmps.size = nt) (hd : okDst nt o.dst = true)
    (hexec : Enters P f → (execOp a.eval o).run P w = .ok (.enter f ((xs.map a.eval).toArray ++ us)) w) : Good G Wr P base g st a w o out := by
  unfold callOut2 at hm
  cases hl : lends ids lent with
  | true => rw [hl] at hm; cases hm
  | false =>
    rw [hl] at hm
    simp only [cond_false] at hm
    split at hm
    · rename_i tb htb
      have hcs := cond_some hm
      clear hm
      obtain ⟨hcond, hm⟩ := hcs
      simp only [Bool.and_eq_true] at hcond
      obtain ⟨hcl, hbl⟩ := hcond
      obtain ⟨c1, c2⟩ := closed_spec hcl
      have hlent : ∀ i, has i ids = true → ∀ o ∈ lent, ∀ c, o ≠ .cell i c := fun i hi o ho c hoc => by rw [lends_spec hl o ho i c hoc] at hi; cases hi
      -- what is handed
      have hand : ∀ (Wr0 : Nat → Prop) (g1 : Gh) (st1 : St), Inv G Wr0 g1 st1 a.tmps w → (∀ i, has i ids = true → st1.ent i = st.ent i) → VRelL g1.F g1.θ st1.ent (as ++ caps) (xs.map a.eval ++ us.toList) →
          Heap G (freshWr w) g1 (fun i => find i tb) ids w ∧ VRelL g1.F g1.θ (fun i => find i tb) (as ++ caps) ((xs.map a.eval).toArray ++ us).toList ∧ (∀ i, find i tb ≠ none → has i ids = true) := by
        intro Wr0 g1 st1 h1 hsame hargs
        obtain ⟨t1, t2⟩ := sub_tb hV htb hsame
        have hin : ∀ i, find i tb ≠ none → has i ids = true := by
          intro i hi
          cases he : find i tb with
          | none => exact absurd he hi
          | some e => exact (t1 i e he).1
        refine ⟨h1.heap.sub (fun i e hi => (t1 i e hi).2) (closed_cells ?_) ?_ (fun b hb => hb) ?_, by simpa using VRelL.sub _ _ (fun i hi => ⟨(t2 i (c1 i hi)).1, rfl⟩) hargs, hin⟩
        · intro i e hi j hj
          rw [(t2 j (c2 j (tbIds_mem (find_mem hi) j hj))).1]
          exact (t2 j (c2 j (tbIds_mem (find_mem hi) j hj))).2
        · intro i hi hn
          rw [hin i hi] at hn; cases hn
        · intro i c e xs n cap b hn hi _ _
          rw [hin i hi] at hn; cases hn
      split at hm
      · rename_i v tb' hv
        cases hf : v.flat with
        | true =>
          rw [hf] at hm
          simp only [cond_true, Option.some.injEq] at hm; subst hm
          obtain ⟨g1, st1, k1, k2, k3, k4⟩ := handed_any hV h hx hc
          obtain ⟨m1, m2, m3⟩ := hand _ g1 st1 k2 (fun i hi => k4 i (hlent i hi)) k3
          exact quiet_good (lent := lent) hcall hup h hgl hv hf k1.le m1 m2 (fun i hi => below_spec hbl i (m3 i hi)) (fun i hi => below_spec hbl i hi) hsz hd hexec
        | false =>
          rw [hf] at hm
          simp only [cond_false] at hm
          cases hl2 : anyLocked V lent || !v.noIds with
          | true => rw [hl2] at hm; cases hm
          | false =>
            rw [hl2] at hm
            simp only [cond_false, Option.some.injEq] at hm; subst hm
            simp only [Bool.or_eq_false_iff, Bool.not_eq_false'] at hl2
            have hlu := anyLocked_spec hl2.1
            obtain ⟨g1, k1, _, k3, k4⟩ := h.freezeAll lent (fun p hp => by rw [hV.locked]; exact hlu p hp)
            obtain ⟨m1, m2, m3⟩ := hand _ g1 _ k3 (fun i hi => ent_freezeAll lent st i (hlent i hi)) (handed hV h hx hc k1 k3 k4)
            exact quiet_good2 hcall hup h hgl hv hl2.2 k1 k3 m1 m2 (fun i hi => below_spec hbl i (m3 i hi)) (fun i hi => below_spec hbl i hi) hsz hd hexec
      · cases hm
    · cases hm

theorem heap_nil {g1 : Gh} (hok : g1.F.ok w) : Heap G (freshWr w) g1 (fun i => find i []) [] w where
  ok := hok
  box := fun id cs hi => by simp [find] at hi
  map := fun id cs hi => by simp [find] at hi
  inj := fun i j hi => by simp [find] at hi
  free := fun i hi => by simp [find] at hi
  wr := fun i hi => by simp [find] at hi
  big := fun b hb => hb
  cells := fun id c A hA hj => by simp only [find, cellOf] at hA; exact absurd hA.symm hj

theorem freeze_mono {T T' : Nat → Option Ent} {base : Nat} (h : ∀ i e, T i = some e → T' i = some e) : ∀ (n : Nat), (∀ (A : AV) (d : DV), freeze T base n A = some d → freeze T' base n A = some d) ∧ (∀ (cs : List AV) (l : List DV), freezes T base n cs = some l → freezes T' base n cs = some l)
  | 0 => ⟨fun A d hf => by simp [freeze] at hf, fun cs l hf => by simp [freezes] at hf⟩
  | n + 1 => by
    obtain ⟨ih1, ih2⟩ := freeze_mono h n
    constructor
    · intro A d hf
      cases A with
      | dv d' => simpa only [freeze] using hf
      | nils e => simpa only [freeze] using hf
      | own e xs => simpa only [freeze] using hf
      | ptr id off =>
        simp only [freeze] at hf ⊢
        cases hb : Nat.ble base id with
        | false => rw [hb] at hf; cases hf
        | true =>
          rw [hb] at hf
          simp only [cond_true] at hf ⊢
          split at hf
          · rename_i cs hT
            rw [h _ _ hT]
            split at hf
            · rename_i l hl
              dsimp only
              rw [ih2 _ _ hl]
              exact hf
            · cases hf
          · cases hf
      | map id =>
        simp only [freeze] at hf ⊢
        cases hb : Nat.ble base id with
        | false => rw [hb] at hf; cases hf
        | true =>
          rw [hb] at hf
          simp only [cond_true] at hf ⊢
          split at hf
          · rename_i kv hT
            rw [h _ _ hT]
            split at hf
            · rename_i l hl
              dsimp only
              rw [ih2 _ _ hl]
              exact hf
            · cases hf
          · cases hf
      | agg cs =>
        simp only [freeze] at hf ⊢
        split at hf
        · rename_i l hl
          rw [ih2 _ _ hl]; exact hf
        · cases hf
      | fn f cs =>
        simp only [freeze] at hf ⊢
        split at hf
        · rename_i l hl
          rw [ih2 _ _ hl]; exact hf
        · cases hf
      | ifc t B =>
        simp only [freeze] at hf ⊢
        split at hf
        · rename_i l hl
          rw [ih1 _ _ hl]; exact hf
        · cases hf
      | vw o k => simp [freeze] at hf
      | vp o j off => simp [freeze] at hf
      | tup vs => simp [freeze] at hf
      | undf => simp [freeze] at hf
      | junk => simp [freeze] at hf
    · intro cs l hf
      cases cs with
      | nil => simpa only [freezes] using hf
      | cons A r =>
        simp only [freezes] at hf ⊢
        split at hf
        · rename_i d l' h1 h2
          rw [ih1 _ _ h1, ih2 _ _ h2]; exact hf
        · cases hf

/-- What is handed, all of memory frozen. -/
theorem arg_full (hV : Shows V st) (h : Inv G Wr g st a.tmps w) {x : Operand} {A : AV} {f : List Org} (hx : arg V x = some (A, f)) :
    (∃ d, A = .dv d ∧ Rep (g.F.more w (fun _ => True)) d (a.eval x)) ∨ VRel g.F g.θ st.ent A (a.eval x) := by
  have hle := Fz.le_more h.heap.ok (fun _ => True)
  unfold arg at hx
  split at hx
  · rename_i e xs hx'
    obtain ⟨t, rfl, ht, h1, h2⟩ := opnd_own hV h hx'
    simp only [Option.some.injEq, Prod.mk.injEq] at hx
    obtain ⟨rfl, rfl⟩ := hx
    exact .inl ⟨_, rfl, h2.frozen h.heap.ok fun _ _ _ _ => trivial⟩
  · rename_i o k hx'
    obtain ⟨t, rfl, ht, h1, h2⟩ := opnd_view hV h hx' rfl
    simp only [ViewRel] at h2
    obtain ⟨xs, q, cap, k1, k2, k3, k4⟩ := h2
    split at hx
    · rename_i e ys hat
      have hat' := hV.at_ (o := o) (by rw [hat]; simp)
      rw [hat] at hat'
      simp only [Option.some.injEq, Prod.mk.injEq] at hx
      obtain ⟨rfl, rfl⟩ := hx
      have hxs : xs = ys := by
        rcases k1 with ⟨e', k1⟩ | k1
        · rw [hat'] at k1; simp only [AV.own.injEq] at k1; exact k1.2.symm
        · rw [hat'] at k1; cases k1
      subst hxs
      obtain ⟨u, m1, m2⟩ := h.place o _ hat' (by simp) rfl
      rw [k2] at m1
      simp only [Option.some.injEq] at m1; subst m1
      simp only [PRel] at m2
      refine .inl ⟨_, rfl, ?_⟩
      rw [k3]
      exact Rep.take (m2.frozen h.heap.ok fun _ _ _ _ => trivial) k4
    · rename_i ys hat
      have hat' := hV.at_ (o := o) (by rw [hat]; simp)
      rw [hat] at hat'
      simp only [Option.some.injEq, Prod.mk.injEq] at hx
      obtain ⟨rfl, rfl⟩ := hx
      have hxs : xs = ys := by
        rcases k1 with ⟨e', k1⟩ | k1
        · rw [hat'] at k1; cases k1
        · rw [hat'] at k1; simpa using k1.symm
      subst hxs
      obtain ⟨u, m1, m2⟩ := h.place o _ hat' (by simp) rfl
      rw [k2] at m1
      simp only [Option.some.injEq] at m1; subst m1
      simp only [PRel, VRel] at m2
      refine .inl ⟨_, rfl, ?_⟩
      rw [k3]
      exact Rep.take (m2.mono hle) k4
    · cases hx
  · rename_i e hx'
    simp only [Option.some.injEq, Prod.mk.injEq] at hx
    obtain ⟨rfl, rfl⟩ := hx
    have := opnd_rel hV h hx' (by simp) rfl
    simp only [VRel] at this
    refine .inl ⟨_, rfl, ?_⟩
    rw [this]
    simp only [Rep]
    exact ⟨none, 0, rfl, Nat.le_refl _, .inl trivial⟩
  · rename_i B h1 h2 h3 hx'
    cases hs : B.solid with
    | false => simp [ask, hs] at hx
    | true =>
      simp only [ask, hs, cond_true, Option.some.injEq, Prod.mk.injEq] at hx
      obtain ⟨rfl, rfl⟩ := hx
      exact .inr (tidy_rel _ _ (opnd_rel hV h hx' (solid_noown hs) (solid_noview hs)))
  · cases hx

theorem argsOf_full (hV : Shows V st) (h : Inv G Wr g st a.tmps w) : ∀ {xs : List Operand} {as : List AV} {f : List Org}, argsOf V xs = some (as, f) → as.length = xs.length ∧
    ∀ (j : Nat) A, as[j]? = some A → ∃ u, (xs.map a.eval)[j]? = some u ∧ ((∃ d, A = .dv d ∧ Rep (g.F.more w (fun _ => True)) d u) ∨ VRel g.F g.θ st.ent A u)
  | [], as, f, hx => by
    simp only [argsOf, Option.some.injEq, Prod.mk.injEq] at hx
    obtain ⟨rfl, rfl⟩ := hx
    simp
  | x :: r, as, f, hx => by
    simp only [argsOf] at hx
    split at hx
    · rename_i A fa Ar fb h1 h2
      simp only [Option.some.injEq, Prod.mk.injEq] at hx
      obtain ⟨rfl, rfl⟩ := hx
      obtain ⟨k1, k2⟩ := argsOf_full hV h h2
      refine ⟨by simp [k1], fun j B hj => ?_⟩
      cases j with
      | zero => simp at hj; subst hj; exact ⟨_, rfl, arg_full hV h h1⟩
      | succ j => obtain ⟨u, q1, q2⟩ := k2 j B (by simpa using hj); exact ⟨u, by simpa using q1, q2⟩
    · cases hx

theorem call0_good (hcall : CallsOK G P Gl call) (hup : ∀ F F', F.le F' → Gl F → Gl F') (hV : Shows V st) (h : Inv G Wr g st a.tmps w) (hgl : Gl g.F) {f : FuncId} {xs : List Operand} {as caps : List AV} {us : Array Value} {lent : List Org} {out : Out}
    (hx : argsOf V xs = some (as, lent)) (hc : VRelL g.F g.θ st.ent caps us.toList) (hm : callOut0 call V f (as ++ caps) lent = some out) {o : Oper} (hsz : a.tmps.size = nt) (hd : okDst nt o.dst = true)
    (hexec : Enters P f → (execOp a.eval o).run P w = .ok (.enter f ((xs.map a.eval).toArray ++ us)) w) : Good G Wr P base g st a w o out := by
  have hgood : ∀ (v : AV) tb' (ds : List DV), call f (ds.map .dv) [] [] 0 = some (v, tb') → v.flat = true → (∃ F1, g.F.le F1 ∧ F1.ok w ∧ RepL F1 ds (xs.map a.eval ++ us.toList)) → Good G Wr P base g st a w o { v := v } := by
    rintro v tb' ds hv hf ⟨F1, p1, p2, p3⟩
    exact quiet_good (base' := 0) (g1 := { g with F := F1 }) (lent := lent) hcall hup h hgl hv hf p1 (heap_nil p2) (by simpa using repL_vrelL p3) (fun i hi => by simp [find] at hi) (fun i hi => by simp [has] at hi) hsz hd hexec
  unfold callOut0 at hm
  split at hm
  · rename_i ds hds
    split at hm
    · rename_i v tb' hv
      cases hf : v.flat with
      | true =>
        rw [hf] at hm
        simp only [cond_true, Option.some.injEq] at hm; subst hm
        obtain ⟨g1, st1, k1, k2, k3, _⟩ := handed_any hV h hx hc
        exact hgood v tb' ds hv hf ⟨g1.F, k1.le, k2.heap.ok, toDVs_rep _ _ _ hds k3⟩
      | false =>
        rw [hf] at hm
        simp only [cond_false] at hm
        cases hl2 : anyLocked V lent || !v.noIds with
        | true => rw [hl2] at hm; cases hm
        | false =>
          rw [hl2] at hm
          simp only [cond_false, Option.some.injEq] at hm; subst hm
          simp only [Bool.or_eq_false_iff, Bool.not_eq_false'] at hl2
          have hlu := anyLocked_spec hl2.1
          obtain ⟨g1, k1, _, k3, k4⟩ := h.freezeAll lent (fun p hp => by rw [hV.locked]; exact hlu p hp)
          have hrep := toDVs_rep _ _ _ hds (handed hV h hx hc k1 k3 k4)
          exact quiet_good2 (base' := 0) hcall hup h hgl hv hl2.2 k1 k3 (heap_nil k3.heap.ok) (by simpa using repL_vrelL hrep) (fun i hi => by simp [find] at hi) (fun i hi => by simp [has] at hi) hsz hd hexec
    · cases hm
  · split at hm
    · rename_i ds hds
      split at hm
      · rename_i v tb' hv
        have hcs := cond_some hm
        clear hm
        obtain ⟨hf, hm⟩ := hcs
        simp only [Option.some.injEq] at hm; subst hm
        refine hgood v tb' ds hv hf ?_
        refine ⟨g.F.more w (fun _ => True), Fz.le_more h.heap.ok _, h.heap.ok.more _, ?_⟩
        obtain ⟨a1, a2⟩ := argsOf_full hV h hx
        have hcl := (VRelL_iff _ _).1 hc
        obtain ⟨k1, k2⟩ := freezes_get 200 (as ++ caps) ds hds
        refine RepL_of ?_ fun j d hj => ?_
        · rw [k1]; simp [a1, hcl.1]
        have hjl : j < (as ++ caps).length := by rw [← k1]; exact (List.getElem?_eq_some_iff.1 hj).1
        obtain ⟨m', d', q1, q2, q3⟩ := k2 j _ (List.getElem?_eq_getElem hjl)
        rw [hj] at q2
        simp only [Option.some.injEq] at q2; subst q2
        have hget := List.getElem?_eq_getElem hjl
        generalize (as ++ caps)[j] = A at hget q3
        have hrel : ∃ u, (xs.map a.eval ++ us.toList)[j]? = some u ∧ ((∃ d, A = .dv d ∧ Rep (g.F.more w (fun _ => True)) d u) ∨ VRel g.F g.θ st.ent A u) := by
          rw [List.getElem?_append] at hget
          by_cases hlt : j < as.length
          · rw [if_pos hlt] at hget
            obtain ⟨u, u1, u2⟩ := a2 j A hget
            exact ⟨u, by rw [List.getElem?_append_left (by simpa [← a1] using hlt)]; exact u1, u2⟩
          · rw [if_neg hlt] at hget
            obtain ⟨u, u1, u2⟩ := hcl.2 _ A hget
            refine ⟨u, ?_, .inr u2⟩
            rw [List.getElem?_append_right (by simp [← a1]; omega)]
            simpa [← a1] using u1
        obtain ⟨u, u1, u2⟩ := hrel
        refine ⟨u, u1, ?_⟩
        rcases u2 with ⟨d2, rfl, u2⟩ | u2
        · cases m' with
          | zero => simp [freeze] at q3
          | succ m' => simp only [freeze, Option.some.injEq] at q3; subst q3; exact u2
        · exact freeze_rep (base := 0) h.heap (fun _ _ _ => trivial) (fun _ _ _ _ _ _ _ _ => trivial) m' A d u (.slot 0) ((freeze_mono (fun i e hi => hV.get i e hi) m').1 A d q3) (by simp) (PRel.of_vrel u2)
      · cases hm
    · cases hm

end
end Go.Abs
end

section
namespace Go.Abs

section
variable {G : Ctx} {Wr : Nat → Prop} {P : Program} {Gl : Fz → Prop} {call : CallF}
variable {g : Gh} {V : Vw} {st : St} {a : Act} {w : World} {base base' nt : Nat}

theorem Quiet.inv {w' : World} (hq : Quiet w w') (h : Inv G Wr g st a.tmps w) : Inv G Wr g st a.tmps w' :=
  h.ext rfl (fun _ _ => rfl) (fun _ _ hp _ => hp) hq.heap hq.size
theorem Quiet.chg {w' : World} (hq : Quiet w w') (hbig : ∀ b, w.heap.size ≤ b → Wr b) : Chg Wr base g w g w' :=
  ⟨.refl _, fun _ _ => ⟨rfl, rfl⟩, fun _ _ => rfl, fun _ _ => rfl, fun b hb => hq.heap b (Nat.lt_of_not_le fun h => hb (hbig b h)), hq.size, hq.os, hq.tape, hq.output⟩

theorem arg_dv (hV : Shows V st) (h : Inv G Wr g st a.tmps w) {x : Operand} {A : AV} {f : List Org} (hx : arg V x = some (A, f)) (hno : ∀ xs, A ≠ .dv (.lst xs)) : VRel g.F g.θ st.ent A (a.eval x) := by
  unfold arg at hx
  split at hx
  · split at hx
    · simp only [Option.some.injEq, Prod.mk.injEq] at hx
      exact absurd hx.1.symm (hno _)
    · cases hx
  · split at hx
    · simp only [Option.some.injEq, Prod.mk.injEq] at hx
      exact absurd hx.1.symm (hno _)
    · simp only [Option.some.injEq, Prod.mk.injEq] at hx
      exact absurd hx.1.symm (hno _)
    · cases hx
  · simp only [Option.some.injEq, Prod.mk.injEq] at hx
    exact absurd hx.1.symm (hno _)
  · rename_i B h1 h2 h3 hx'
    cases hs : B.solid with
    | false => simp [ask, hs] at hx
    | true =>
      simp only [ask, hs, cond_true, Option.some.injEq, Prod.mk.injEq] at hx
      obtain ⟨rfl, rfl⟩ := hx
      exact tidy_rel _ _ (opnd_rel hV h hx' (solid_noown hs) (solid_noview hs))
  · cases hx

theorem argsOf_two {xs : List Operand} {A B : AV} {f : List Org} (hx : argsOf V xs = some ([A, B], f)) : ∃ x y fa fb, xs = [x, y] ∧ arg V x = some (A, fa) ∧ arg V y = some (B, fb) := by
  match xs, hx with
  | [], hx => simp [argsOf] at hx
  | x :: r, hx =>
    simp only [argsOf] at hx
    split at hx
    · rename_i v fa vs fb h1 h2
      simp only [Option.some.injEq, Prod.mk.injEq, List.cons.injEq] at hx
      obtain ⟨⟨rfl, rfl⟩, rfl⟩ := hx
      match r, h2 with
      | [], h2 => simp [argsOf] at h2
      | y :: r', h2 =>
        simp only [argsOf] at h2
        split at h2
        · rename_i v' fa' vs' fb' h3 h4
          simp only [Option.some.injEq, Prod.mk.injEq, List.cons.injEq] at h2
          obtain ⟨⟨rfl, rfl⟩, rfl⟩ := h2
          match r', h4 with
          | [], h4 => exact ⟨x, y, _, _, rfl, h1, h3⟩
          | z :: r'', h4 =>
            simp only [argsOf] at h4
            split at h4
            · simp at h4
            · cases h4
        · cases h2
    · cases hx

theorem put_kp (st : St) (dst : Option Nat) (v : AV) (k : List Org) (ps : List (Org × AV)) : st.put dst { v := v, kill := k, puts := ps } =
    (match dst with
    | some d => (ps.foldl (fun st (x : Org × AV) => st.setPlace x.2 x.1) (k.foldl St.kill1 st)).setSlot d v
    | none => ps.foldl (fun st (x : Org × AV) => st.setPlace x.2 x.1) (k.foldl St.kill1 st)) := by
  unfold St.put; rfl

/-- One cell of a box is written. -/
theorem Inv.setCell1 {tmps : Array Value} (h : Inv G Wr g st tmps w) {id : Nat} {old new : AV} (he : st.ent id = some (.box [old])) {v : Value} (hr : VRel g.F g.θ st.ent new v) :
    Inv G Wr g ((cellPuts id 0 [new]).foldl (fun st (x : Org × AV) => st.setPlace x.2 x.1) ([Org.cell id 0].foldl St.kill1 st)) tmps (w.setCell ⟨g.θ id, 0, none⟩ v) := by
  obtain ⟨k1, k2, k3, k4, k5⟩ := kills [.cell id 0] h
  generalize [Org.cell id 0].foldl St.kill1 st = st2 at k1 k2 k3 k4 k5
  have he2 : st2.ent id = some (.box [old]) := by rw [ent_of_tb k2]; exact he
  obtain ⟨p1, p2, p3⟩ := puts_fold id [new] 0 st2 (.box [old]) he2
  simp only [setCells, setCell, List.set_cons_zero] at p3
  obtain ⟨cur, ty, hw, hcs⟩ := h.heap.box id _ he
  rw [setCell_eq_setRow w (g.θ id) 0 cur ty (0, 0) v hw]
  have hent : st2.ent = st.ent := funext fun j => ent_of_tb k2 j
  have hcv : ∀ c, cellVal (w.setRow (g.θ id) (cur.setIfInBounds 0 v)) (g.θ id) c = if c = 0 then some v else cellVal w (g.θ id) c := by
    intro c
    simp only [cellVal, setRow_heap w _ cur _ ty _ hw, hw]
    by_cases hc : c = 0
    · subst hc
      have : 0 < cur.size := by rw [hcs]; simp
      simp [this]
    · simp [hc, Array.getElem?_setIfInBounds_ne (Ne.symm hc)]
  have hce : ∀ c, cellOf (some (.box [new])) c = if c = 0 then new else cellOf (some (.box [old])) c := by
    intro c
    cases c with
    | zero => rfl
    | succ c => simp [cellOf]
  refine k1.reEnt (e' := .box [new]) he2 p1 p2 p3 rfl rfl (fun b hb => setRow_other w _ b _ hb) (by simp [World.setRow]) ?_ (by intro kv hkv; cases hkv) ?_ ?_
  · intro cs hcs'
    simp only [Ent.box.injEq] at hcs'; subst hcs'
    exact ⟨_, ty, setRow_heap w _ cur _ ty _ hw, by simpa using hcs⟩
  · intro c A hA hj
    rw [hce] at hA
    rw [hcv]
    by_cases hc : c = 0
    · rw [if_pos hc] at hA ⊢
      subst hA
      refine .inr ⟨v, rfl, ?_⟩
      rw [hent]
      exact PRel.of_vrel hr
    · rw [if_neg hc] at hA ⊢
      exact .inl ⟨hA, rfl⟩
  · intro m c hvw
    rw [hce, hcv]
    by_cases hc : c = 0
    · subst hc
      rw [k5 _ (by simp) m] at hvw; cases hvw
    · rw [if_neg hc, if_neg hc]; exact ⟨rfl, rfl⟩

theorem callOut_good (hcall : CallsOK G P Gl call) (pr : Prims G P Gl) (hV : Shows V st) (h : Inv G Wr g st a.tmps w) (hgl : Gl g.F) {ids : List Nat} {f : FuncId} {xs : List Operand} {caps : List AV} {us : Array Value} {out : Out}
    (hc : VRelL g.F g.θ st.ent caps us.toList) (hbb : base ≤ base') (hm : callOut G call V ids base' f xs caps = some out) {o : Oper} (hsz : a.tmps.size = nt) (hd : okDst nt o.dst = true)
    (hexec : Enters P f → (execOp a.eval o).run P w = .ok (.enter f ((xs.map a.eval).toArray ++ us)) w) : Good G Wr P base g st a w o out := by
  unfold callOut at hm
  split at hm
  · rename_i as lent hx
    dsimp only at hm
    cases hf : Nat.beq f G.asFn with
    | true =>
      rw [hf] at hm
      rw [beq_dec] at hf
      have hf' : f = G.asFn := by simpa using hf
      subst hf'
      simp only [cond_true] at hm
      split at hm
      · rename_i B _
        simp only [Option.some.injEq] at hm; subst hm
        simp only [VRelL] at hc
        have hus : us = #[] := by apply Array.ext'; simpa using hc
        subst hus
        obtain ⟨x, y, fa, fb, rfl, ha, hb⟩ := argsOf_two hx
        have h1 := arg_dv hV h ha (by simp)
        simp only [VRel, Rep] at h1
        refine good_call (hexec pr.asE) hsz hd (Calls.mono (R := fun e w' => e = .returned (.bool false) ∧ Quiet w w') (by simpa [h1] using pr.asNil (a.eval y) w) ?_)
        rintro e w' ⟨rfl, hq⟩
        exact ⟨_, rfl, g, st, hq.inv h, hq.chg h.heap.big, put_v _ _ _, fun d _ => by simp only [PRel, VRel, Rep]⟩
      · rename_i T cs off T' id
        have hcs := cond_some hm
        clear hm
        obtain ⟨hcond, hm⟩ := hcs
        simp only [Bool.and_eq_true, beq_dec, decide_eq_true_eq, Bool.not_eq_true'] at hcond
        obtain ⟨⟨rfl, rfl⟩, hlk⟩ := hcond
        split at hm
        · rename_i dold hg
          simp only [Option.some.injEq] at hm; subst hm
          simp only [VRelL] at hc
          have hus : us = #[] := by apply Array.ext'; simpa using hc
          subst hus
          obtain ⟨x, y, fa, fb, rfl, ha, hb⟩ := argsOf_two hx
          have h1 := arg_dv hV h ha (by simp)
          have h2 := arg_dv hV h hb (by simp)
          simp only [VRel, Rep] at h1 h2
          obtain ⟨u1, e1, b, q, rfl, hrow⟩ := h1
          obtain ⟨u2, e2, rfl, hbox⟩ := h2
          have he := hV.get id _ hg
          have hne : st.ent id ≠ none := by rw [he]; simp
          obtain ⟨cur, ty, hw, hcz⟩ := h.heap.box id _ he
          have hc0 : ∃ old, w.cell? ⟨g.θ id, 0, none⟩ = some old := by
            have : 0 < cur.size := by rw [hcz]; simp
            exact ⟨cur[0], by simp [World.cell?, hw, this]⟩
          obtain ⟨old, hc0⟩ := hc0
          have hfro : w.frozen? ⟨g.θ id, 0, none⟩ = false := by simp [World.frozen?, hw]
          refine good_call (hexec pr.asE) hsz hd (Calls.mono (by simpa [e1, e2] using pr.asHit g.F w hgl h.heap.ok ⟨b, q + off, none⟩ ⟨g.θ id, 0, none⟩ old hc0 hfro) ?_)
          rintro e w' ⟨rfl, w1, hq, rfl⟩
          have hi1 := hq.inv h
          have hi2 := hi1.setCell1 (new := .dv (.ptr cs off)) he (v := .pointer (some ⟨b, q + off, none⟩)) (by simp only [VRel, Rep]; exact ⟨b, q, rfl, hrow⟩)
          obtain ⟨cur1, ty1, hw1, _⟩ := hi1.heap.box id _ he
          have hset := setCell_eq_setRow w1 (g.θ id) 0 cur1 ty1 (0, 0) (.pointer (some ⟨b, q + off, none⟩)) hw1
          have hc1 : Chg Wr base g w g w1 := hq.chg h.heap.big
          refine ⟨_, rfl, g, _, hi2, ?_, put_kp _ _ _ _ _, fun d _ => by simp only [PRel, VRel, Rep]⟩
          refine ⟨hc1.le, hc1.new, hc1.ow, hc1.θ, fun b' hb' => ?_, ?_, ?_, ?_, ?_⟩
          · rw [hset, setRow_other w1 _ b' _ (by rintro rfl; exact hb' (h.heap.wr id hne (has_locked hV hlk)))]
            exact hc1.heap b' hb'
          · rw [hset]; simp only [World.setRow, Array.size_modify]; exact hc1.size
          · rw [hset]; exact hc1.os
          · rw [hset]; exact hc1.tape
          · rw [hset]; exact hc1.output
        · cases hm
      · cases hm
    | false =>
      rw [hf] at hm
      simp only [cond_false] at hm
      cases hf2 : Nat.beq f G.ixFn with
      | true =>
        rw [hf2] at hm
        rw [beq_dec] at hf2
        have hf' : f = G.ixFn := by simpa using hf2
        subst hf'
        simp only [cond_true] at hm
        split at hm
        · rename_i s sub
          have hcs := cond_some hm
          clear hm
          obtain ⟨hcond, hm⟩ := hcs
          simp only [blt_dec, decide_eq_true_eq] at hcond
          simp only [Option.some.injEq] at hm; subst hm
          simp only [VRelL] at hc
          have hus : us = #[] := by apply Array.ext'; simpa using hc
          subst hus
          obtain ⟨x, y, fa, fb, rfl, ha, hb⟩ := argsOf_two hx
          have h1 := arg_dv hV h ha (by simp)
          have h2 := arg_dv hV h hb (by simp)
          simp only [VRel, Rep] at h1 h2
          refine good_call (hexec pr.ixE) hsz hd (Calls.mono (by simpa [h1, h2] using pr.ix g.F w hgl h.heap.ok s sub (by simpa using hcond)) ?_)
          rintro e w' ⟨rfl, hq⟩
          exact ⟨_, rfl, g, st, hq.inv h, hq.chg h.heap.big, put_v _ _ _, fun d _ => by simp only [PRel, VRel, Rep]⟩
        · cases hm
      | false =>
        rw [hf2] at hm
        simp only [cond_false] at hm
        split at hm
        · exact call1_good hcall pr.up hV h hgl hx hc hbb hm hsz hd hexec
        · exact call2_good hcall pr.up hV h hgl hx hc hbb hm hsz hd hexec
        · exact call0_good hcall pr.up hV h hgl hx hc hm hsz hd hexec
  · cases hm

end
end Go.Abs
end

section
namespace Go.Abs

section
variable {G : Ctx} {Wr : Nat → Prop} {P : Program} {Gl : Fz → Prop} {call : CallF}
variable {g : Gh} {V : Vw} {st : St} {a : Act} {w : World} {base nt : Nat}

theorem len1 {α : Type} {x : Array α} {y : α} (h : x.toList = [y]) : x = #[y] := by apply Array.ext'; simpa using h
theorem len2 {α : Type} {x : Array α} {y z : α} (h : x.toList = [y, z]) : x = #[y, z] := by apply Array.ext'; simpa using h

theorem op_good (hcall : CallsOK G P Gl call) (pr : Prims G P Gl) (tie : Ties G P) (hV : Shows V st) (h : Inv G Wr g st a.tmps w) (hgl : Gl g.F) {ids kept : List Nat} {o : Oper} {out : Out} (hsz : a.tmps.size = nt) (hd : okDst nt o.dst = true)
    (hvd : ∀ d, o.dst = some d → out.v.views (.slot d) = false) (hsee : SeesNew V st base o.dst) (hm : opOut G call V ids base nt kept o = some out) : Good G Wr P base g st a w o out := by
  have simple : Simple G Wr g V st a w out ((execOp a.eval o).run P w) → Good G Wr P base g st a w o out := fun hs => Simple.good h hV hsz hd hvd hs
  unfold opOut at hm
  split at hm
  · rename_i x ho
    exact assign_good hV h ho hsz hd hm
  · rename_i x ho
    refine simple ?_
    have hr : (execOp a.eval o).run P w = .ok (.value (a.eval x)) w := by simp [execOp, ho]
    rw [hr]
    exact typeIf_simple (fun out0 h0 => move_simple hV h h0) hm
  · rename_i c x y ho
    exact simple (pick_simple hV h hm ho)
  · rename_i T ho
    exact alloc_good tie h ho hsz hd hsee hm
  · rename_i T x ho
    exact box_good hV h ho hsz hd hsee hm
  · rename_i T ps ho
    exact simple (build_simple hV h tie hm ho)
  · rename_i T n ps ho
    exact buildSlice_good hV tie h ho hsz hd hm
  · rename_i T x ho
    exact simple (load_simple hV h tie hm ho)
  · rename_i T x y ho
    exact store_good hV tie h ho hsz hd hm
  · rename_i x ho
    exact simple (nilCheck_simple hV h hm ho)
  · rename_i op T x y _ ho
    exact simple (binOp_simple hV h tie hm ho)
  · rename_i op _ x ho
    exact simple (unOp_simple hV h hm ho)
  · rename_i s d x ho
    exact simple (convert_simple hV h tie hm ho)
  · rename_i T x ho
    exact simple (makeIface_simple hV h tie hm ho)
  · rename_i f first caps ho
    exact simple (makeFunc_simple hV h hm ho)
  · rename_i T ho
    exact makeMap_good h ho hsz hd hsee hm
  · rename_i T l c ho
    exact makeSlice_good hV tie h ho hsz hd hm
  · rename_i T x lo hi ho
    exact simple (slice_simple hV h tie hm ho)
  · rename_i T x f ho
    exact simple (fieldAddr_simple hV h tie hm ho)
  · rename_i T x f ho
    exact simple (field_simple hV h tie hm ho)
  · rename_i T x i ho
    exact simple (indexAddr_simple hV h tie hm ho)
  · rename_i T x i ho
    exact simple (index_simple hV h tie hm ho)
  · rename_i T x k ok ho
    exact simple (lookup_simple hV h tie hm ho)
  · rename_i T m k x ho
    exact mapUpdate_good hV tie h (.inl ho) hsz hd hm
  · rename_i T m k x ho
    exact mapUpdate_good hV tie h (.inr ho) hsz hd hm
  · rename_i x X T ok ho
    exact simple (assert_simple hV h tie hm ho)
  · rename_i t j ho
    exact simple (extract_simple hV h hm ho)
  · rename_i c ho
    unfold callOf at hm
    split at hm
    · rename_i b hb
      unfold builtinOf at hm
      split at hm
      · unfold lenOf at hm
        split at hm
        · rename_i x T h1 h2
          exact simple (len_simple hV h tie hm ho hb (len1 h1) (len1 h2))
        · cases hm
      · unfold appendOf at hm
        split at hm
        · rename_i s x h1
          exact append_good hV tie h ho hb (len2 h1) rfl hsz hd hvd hm
        · cases hm
      · exact simple (minMaxOut_simple hV h (mx := false) hm ho hb rfl)
      · exact simple (minMaxOut_simple hV h (mx := true) hm ho hb rfl)
      · cases hm
    · rename_i fo hfo
      unfold valueOf at hm
      split at hm
      · rename_i f caps hf
        obtain ⟨us, hfe, hcaps⟩ := resolveF_rel hV h hf
        refine callOut_good hcall pr hV h hgl hcaps (Nat.le_add_right base nt) hm hsz hd fun he => ?_
        rw [run_call ho hfo hfe he]
        congr 3
        apply Array.ext'
        simp
      · cases hm
    · cases hm
  · cases hm

theorem guard_wanted {ops : Array Oper} {o : Oper} (hV : Shows V st) (h : Inv G Wr g st a.tmps w) {b : Bool} (hw : wantedA ops.toList V o = some b) : Region.wanted o (yielded ops a.tmps) = b := by
  unfold wantedA at hw
  unfold Region.wanted
  split at hw
  · rename_i hg
    simp only [Option.some.injEq] at hw
    rw [hg]; exact hw
  · rename_i j want hg
    rw [hg]
    split at hw
    · rename_i go hgo
      have hgo' : ops[j]? = some go := by simpa using hgo
      split at hw
      · rename_i d hd
        have hsl : ∀ A, V.sl d = A → A ≠ .junk → st.slot d = A := by
          intro A hA hj
          rcases hV.sl d with hq | hq
          · rw [hA] at hq; exact absurd hq hj
          · rw [← hq]; exact hA
        split at hw
        · rename_i b' hb'
          have := hsl _ hb' (by simp)
          obtain ⟨v, h1, h2⟩ := h.slots d _ this (by simp)
          simp only [SRel, isView, Bool.false_eq_true, if_false, PRel, VRel, Rep] at h2
          simp only [Option.some.injEq] at hw
          simp only [yielded, hgo', Option.bind_some, hd, h1, h2]
          rw [← hw]
          simp
        · rename_i hb'
          have := hsl _ hb' (by simp)
          obtain ⟨v, h1, h2⟩ := h.slots d _ this (by simp)
          simp only [SRel, isView, Bool.false_eq_true, if_false, PRel, VRel] at h2
          simp only [Option.some.injEq] at hw
          simp only [yielded, hgo', Option.bind_some, hd, h1, h2]
          rw [← hw]
          rfl
        · cases hw
      · cases hw
    · cases hw

theorem step_good (hcall : CallsOK G P Gl call) (pr : Prims G P Gl) (tie : Ties G P) (hV : Shows V st) (h : Inv G Wr g st a.tmps w) (hgl : Gl g.F) {ops : Array Oper} {ids kept : List Nat} {o : Oper} {out : Out} (hsz : a.tmps.size = nt) (hsee : SeesNew V st base o.dst)
    (hm : stepOut G call base nt kept ops.toList V ids o = some out) {next : Act → World → Prop} {Q : Exit → Act → World → Prop} (hn : Next1 G Wr base g a w (st.put o.dst out) next) :
    if Region.wanted o (yielded ops a.tmps) then o.wp P a w next Q ∨ (o.asks P a w ∧ LetsOut Q) else next (a.put o.dst undef) w := by
  unfold stepOut at hm
  cases hd : okDst nt o.dst with
  | false => simp [ask, hd] at hm
  | true =>
    simp only [ask, hd, cond_true] at hm
    split at hm
    · rename_i hw
      rw [guard_wanted hV h hw]
      simp only [if_true]
      split at hm
      · rename_i out0 hop
        left
        have hfin : out0 = out ∧ ∀ d, o.dst = some d → out.v.views (.slot d) = false := by
          split at hm
          · rename_i d hdst
            cases hb : out0.v.views (.slot d) with
            | true => simp [hb] at hm
            | false =>
              simp only [hb, Bool.not_false, cond_true, Option.some.injEq] at hm
              subst hm
              exact ⟨rfl, fun d' hd' => by rw [hdst] at hd'; simp only [Option.some.injEq] at hd'; subst hd'; exact hb⟩
          · rename_i hdst
            simp only [Option.some.injEq] at hm
            subst hm
            exact ⟨rfl, fun d' hd' => by rw [hdst] at hd'; cases hd'⟩
        obtain ⟨rfl, hvd⟩ := hfin
        exact op_good hcall pr tie hV h hgl hsz hd hvd hsee hop next Q hn
      · cases hm
    · rename_i hw
      rw [guard_wanted hV h hw]
      simp only [Option.some.injEq] at hm; subst hm
      simp only [Bool.false_eq_true, if_false]
      refine hn g _ w ?_ (.refl _ _ _ _) (Act.put_defers' _ _ _) (Act.put_size _ _ _)
      rw [put_v, put_tmps]
      cases hdst : o.dst with
      | none => exact h
      | some d =>
        have hlt : d < a.tmps.size := by
          rw [hsz]
          simpa [okDst, hdst, blt_dec] using hd
        refine h.setSlot hlt ?_
        simp only [isView, Bool.false_eq_true, if_false]
        intro _
        simp only [PRel, VRel]
    · cases hm

/-! ## Regions in the order of the text -/

theorem runOps_good (hcall : CallsOK G P Gl call) (pr : Prims G P Gl) (tie : Ties G P) {ops : Array Oper} {kept : List Nat} {Q : Exit → Act → World → Prop} : ∀ (n : Nat) {st : St} {g : Gh} {a : Act} {w : World} (_ : Inv G Wr g st a.tmps w) (_ : Gl g.F) (_ : a.tmps.size = nt) (k : Nat), k + n = ops.size →
    ∀ {st' : St}, runOps G call base nt kept ops.toList (ops.toList.drop k) st = some st' →
    Next1 G Wr base g a w st' (Q .normal) → wpOps P ops Q (List.range' k n) a w
  | 0, st, g, a, w, h, hgl, hsz, k, hk, st', hr, hn => by
    have : ops.toList.drop k = [] := List.drop_eq_nil_of_le (by simp; omega)
    rw [this] at hr
    simp only [runOps, Option.some.injEq] at hr; subst hr
    simp only [List.range'_zero, wpOps]
    exact hn g a w h (.refl _ _ _ _) rfl rfl
  | n + 1, st, g, a, w, h, hgl, hsz, k, hk, st', hr, hn => by
    have hlt : k < ops.toList.length := by simp; omega
    rw [List.drop_eq_getElem_cons hlt] at hr
    have ho : ops[k]? = some ops.toList[k] := by rw [← Array.getElem?_toList]; exact List.getElem?_eq_getElem hlt
    generalize ops.toList[k] = o at hr ho
    simp only [runOps] at hr
    split at hr
    · rename_i out hout
      simp only [List.range'_succ, wpOps, ho]
      refine step_good hcall pr tie (Shows.all st) h hgl hsz (fun d _ => rfl) hout (Q := Q) (next := wpOps P ops Q (List.range' (k + 1) n)) ?_
      intro g' a' w' h1 h2 h3 h4
      refine runOps_good hcall pr tie n h1 (pr.up _ _ h2.le hgl) (h4.trans hsz) (k + 1) (by omega) hr ?_
      intro g2 a2 w2 k1 k2 k3 k4
      exact hn g2 a2 w2 k1 (h2.trans k2) (k3.trans h3) (k4.trans h4)
    · cases hr

end
end Go.Abs
end

section
namespace Go.Abs

section
variable {G : Ctx} {Wr : Nat → Prop} {P : Program}

/-- The state is what its slots and boxes are. -/
theorem Inv.congr {g : Gh} {st st' : St} {tmps : Array Value} {w : World} (h : Inv G Wr g st tmps w) (hs : ∀ t, st'.slot t = st.slot t) (he : ∀ j, st'.ent j = st.ent j) (hl : st'.lk = st.lk) : Inv G Wr g st' tmps w := by
  have he' : st'.ent = st.ent := funext he
  have hat : ∀ o, st'.all.at_ o = st.all.at_ o := by
    intro o
    cases o with
    | slot n => exact hs n
    | cell id c => simp only [at_cell, he]
  refine Inv.intro (by rw [he', hl]; exact h.heap.toBase) ?_ (by rw [he']; exact h.heap.noview) ?_
  · intro o A hA hj hv
    rw [hat] at hA
    rw [he', hl]
    exact h.place o A hA hj hv
  · intro n A hA hv
    rw [hs] at hA
    obtain ⟨v, h1, h2⟩ := h.view n A hA hv
    exact ⟨v, h1, viewRel_of h2 fun o _ => ⟨fun ys hy => by rw [hat]; exact hy, rfl⟩⟩

theorem norm_cases (A : AV) : A.norm = A ∨ ∃ e, A = .nils e ∧ A.norm = .own e [] := by
  cases A <;> first
    | exact .inl rfl
    | exact .inr ⟨_, rfl, rfl⟩
theorem norm_ids (A : AV) : A.norm.ids = A.ids := by
  rcases norm_cases A with h | ⟨e, rfl, h⟩
  · rw [h]
  · rfl
theorem norm_junk {A : AV} (h : A.norm ≠ .junk) : A ≠ .junk := by rintro rfl; exact h rfl
theorem norm_view (A : AV) : isView A.norm = isView A := by
  rcases norm_cases A with h | ⟨e, rfl, h⟩
  · rw [h]
  · rfl

/-- What leads to boxes that are there, of their kinds. -/
theorem VRel.live {F : Fz} {θ : Nat → Nat} {T T' : Nat → Option Ent} {A : AV} {v : Value} (h : ∀ i ∈ A.ids, T' i = T i ∨ (isBoxE (T' i) = isBoxE (T i) ∧ isMapE (T' i) = isMapE (T i))) (hr : VRel F θ T A v) : VRel F θ T' A v := by
  -- a table between: the kinds alone matter
  have key : ∀ (T1 : Nat → Option Ent), (∀ i, isBoxE (T1 i) = isBoxE (T i) ∧ isMapE (T1 i) = isMapE (T i)) → VRel F θ T1 A v := fun T1 h1 =>
    VRel.mono (.refl _) ⟨fun i hi => ⟨by rw [(h1 i).1]; exact hi, rfl⟩, fun i hi => ⟨by rw [(h1 i).2]; exact hi, rfl⟩⟩ _ _ hr
  classical
  let T1 : Nat → Option Ent := fun i => if i ∈ A.ids then T' i else T i
  have h1 : VRel F θ T1 A v := key T1 fun i => by
    by_cases hi : i ∈ A.ids
    · simp only [T1, hi, if_true]
      rcases h i hi with hq | hq
      · rw [hq]; exact ⟨rfl, rfl⟩
      · exact hq
    · simp [T1, hi]
  exact VRel.sub _ _ (fun i hi => ⟨by simp [T1, hi], rfl⟩) h1

theorem PRel.norm {g : Gh} {T T' : Nat → Option Ent} {lk : List Nat} {w : World} {p : Org} {A : AV} {u : Value} (h : PRel G Wr g T lk w p A u) (hT : ∀ i, T' i ≠ none → T i ≠ none)
    (hl : ∀ i ∈ A.ids, isBoxE (T' i) = isBoxE (T i) ∧ isMapE (T' i) = isMapE (T i)) : PRel G Wr g T' lk w p A u ∧ PRel G Wr g T' lk w p A.norm u := by
  have h1 : PRel G Wr g T' lk w p A u := by
    cases A with
    | own e xs =>
      exact OwnRel.mono h (.refl _) fun b h3 h4 h5 h6 => ⟨rfl, h3, h4, fun id hid => h5 id (hT id hid)⟩
    | _ => exact VRel.live (fun i hi => .inr (hl i hi)) h
  refine ⟨h1, ?_⟩
  rcases norm_cases A with hq | ⟨e, rfl, hq⟩
  · rw [hq]; exact h1
  · rw [hq]
    simp only [PRel, VRel] at h1
    exact .inl ⟨rfl, h1⟩

theorem keepSl_spec {st : St} : ∀ {l : List Nat} {sl : List (Nat × AV)}, keepSl st l = some sl → ∀ t, (find t sl = none ∧ t ∉ l) ∨ (find t sl = some (st.slot t).norm ∧ isView (st.slot t) = false ∧ ∀ i ∈ (st.slot t).ids, i ∈ slIds sl)
  | [], sl, h, t => by
    simp only [keepSl, Option.some.injEq] at h; subst h
    exact .inl ⟨rfl, by simp⟩
  | k :: r, sl, h, t => by
    simp only [keepSl] at h
    split at h
    · cases h
    · cases h
    · rename_i A hno hno2
      split at h
      · rename_i l' hl
        simp only [Option.some.injEq] at h; subst h
        have hv : isView (st.slot k) = false := by
          cases hq : st.slot k with
          | vw o j => exact (hno o j hq).elim
          | vp o j off => exact (hno2 o j off hq).elim
          | _ => rfl
        simp only [find_cons, slIds]
        by_cases hk : k = t
        · subst hk
          rw [if_pos rfl]
          exact .inr ⟨rfl, hv, fun i hi => by rw [norm_ids]; exact List.mem_append_left _ hi⟩
        · rw [if_neg hk]
          rcases keepSl_spec hl t with ⟨h1, h2⟩ | ⟨h1, h2, h3⟩
          · exact .inl ⟨h1, by simp [h2, Ne.symm hk]⟩
          · exact .inr ⟨h1, h2, fun i hi => List.mem_append_right _ (h3 i hi)⟩
      · cases h

theorem find_keepTb (base : Nat) (ids : List Nat) (i : Nat) : ∀ tb : List (Nat × Ent), find i (keepTb base ids tb) = if i < base then find i tb else if has i ids = true then (find i tb).map Ent.norm else none
  | [] => by simp [keepTb, find]
  | (k, e) :: r => by
    simp only [keepTb, blt_dec]
    by_cases hk : k < base
    · simp only [hk, decide_true, cond_true, find_cons]
      by_cases hki : k = i
      · subst hki; simp [hk]
      · simp only [hki, if_false]; exact find_keepTb base ids i r
    · simp only [hk, decide_false, cond_false]
      cases hh : has k ids with
      | true =>
        simp only [cond_true, find_cons]
        by_cases hki : k = i
        · subst hki; simp [hk, hh]
        · simp only [hki, if_false]; exact find_keepTb base ids i r
      | false =>
        simp only [cond_false, find_cons]
        by_cases hki : k = i
        · subst hki
          rw [find_keepTb base ids k r]
          simp [hk, hh]
        · simp only [hki, if_false]; exact find_keepTb base ids i r

theorem allLive_spec {tb : List (Nat × Ent)} : ∀ {l : List Nat}, allLive tb l = true → ∀ i ∈ l, find i tb ≠ none
  | [], _, i, hi => by simp at hi
  | k :: r, h, i, hi => by
    unfold allLive at h
    split at h
    · rename_i e he
      rcases List.mem_cons.1 hi with rfl | hi
      · rw [he]; simp
      · exact allLive_spec h i hi
    · cases h

theorem ent_norm_cell (e : Ent) (c : Nat) : cellOf (some e.norm) c = (cellOf (some e) c).norm := by
  cases e with
  | box cs =>
    simp only [Ent.norm, cellOf, List.getElem?_map]
    cases cs[c]? <;> rfl
  | map kv =>
    have hk : ∀ (kv : List (ByteArray × AV)) (c : Nat), (normKv kv)[c]? = (kv[c]?).map fun x => (x.1, x.2.norm) := by
      intro kv
      induction kv with
      | nil => intro c; simp [normKv]
      | cons x r ih =>
        intro c
        cases c with
        | zero => simp [normKv]
        | succ c => simp [normKv, ih]
    simp only [Ent.norm, cellOf, hk]
    cases kv[c]? <;> rfl
theorem normKv_keys : ∀ kv : List (ByteArray × AV), (normKv kv).map (fun x => Value.string x.1) = kv.map (fun x => Value.string x.1)
  | [] => rfl
  | (k, v) :: r => by simp [normKv, normKv_keys r]
theorem norm_kind (e : Ent) : isBoxE (some e.norm) = isBoxE (some e) ∧ isMapE (some e.norm) = isMapE (some e) := by cases e <;> exact ⟨rfl, rfl⟩

theorem clear_good {g : Gh} {st st' : St} {tmps : Array Value} {w : World} {base : Nat} {kept : List Nat} (h : Inv G Wr g st tmps w) (hc : clear base kept st = some st') :
    Inv G Wr g st' tmps w ∧ st'.lk = st.lk := by
  -- what the two cases have in common
  have main : ∀ (sl : List (Nat × AV)) (ids : List Nat), keepSl st kept = some sl → allLive (keepTb base ids st.tb) (slIds sl) = true → allLive (keepTb base ids st.tb) (tbIds (keepTb base ids st.tb)) = true →
      Inv G Wr g { sl := sl, tb := keepTb base ids st.tb, lk := st.lk } tmps w := by
    intro sl ids hk hl1 hl2
    have hb := h.heap.toBase
    let st2 : St := { sl := sl, tb := keepTb base ids st.tb, lk := st.lk }
    have hslot : ∀ t, st2.slot t = .junk ∨ (st2.slot t = (st.slot t).norm ∧ isView (st.slot t) = false ∧ ∀ i ∈ (st.slot t).ids, st2.ent i ≠ none) := by
      intro t
      rcases keepSl_spec hk t with ⟨h1, _⟩ | ⟨h1, h2, h3⟩
      · left; simp only [st2, St.slot, h1]
      · right; exact ⟨by simp only [st2, St.slot, h1], h2, fun i hi => allLive_spec hl1 i (h3 i hi)⟩
    have hent : ∀ i, st2.ent i = st.ent i ∨ st2.ent i = (st.ent i).map Ent.norm ∨ st2.ent i = none := by
      intro i
      simp only [st2, St.ent, find_keepTb]
      split
      · exact .inl rfl
      · split
        · exact .inr (.inl rfl)
        · exact .inr (.inr rfl)
    have hdom : ∀ i, st2.ent i ≠ none → st.ent i ≠ none := by
      intro i hi
      rcases hent i with hq | hq | hq
      · rw [hq] at hi; exact hi
      · rw [hq] at hi; intro hn; rw [hn] at hi; exact hi rfl
      · exact absurd hq hi
    have hkind : ∀ i, st2.ent i ≠ none → isBoxE (st2.ent i) = isBoxE (st.ent i) ∧ isMapE (st2.ent i) = isMapE (st.ent i) := by
      intro i hi
      rcases hent i with hq | hq | hq
      · rw [hq]; exact ⟨rfl, rfl⟩
      · rw [hq]
        cases he : st.ent i with
        | none => rw [hq, he] at hi; exact absurd rfl hi
        | some e => exact norm_kind e
      · exact absurd hq hi
    have hcell : ∀ i c, cellOf (st2.ent i) c ≠ .junk → (cellOf (st2.ent i) c = cellOf (st.ent i) c ∨ cellOf (st2.ent i) c = (cellOf (st.ent i) c).norm) ∧ ∀ j ∈ (cellOf (st.ent i) c).ids, st2.ent j ≠ none := by
      intro i c hj
      have hid : st2.ent i ≠ none := by intro hn; rw [hn] at hj; exact hj rfl
      cases he : st2.ent i with
      | none => exact absurd he hid
      | some e2 =>
        rw [he] at hj
        have hids : ∀ j ∈ (cellOf (some e2) c).ids, st2.ent j ≠ none := by
          intro j hjm
          exact allLive_spec hl2 j (tbIds_mem (find_mem he) j (cellOf_ids rfl hj j hjm))
        rcases hent i with hq | hq | hq
        · rw [he] at hq
          rw [← hq]
          exact ⟨.inl rfl, hids⟩
        · cases ho : st.ent i with
          | none => rw [he, ho] at hq; cases hq
          | some e =>
            rw [he, ho] at hq
            simp only [Option.map_some, Option.some.injEq] at hq
            subst hq
            rw [ent_norm_cell] at hids ⊢
            rw [norm_ids] at hids
            exact ⟨.inr rfl, hids⟩
        · rw [he] at hq; cases hq
    refine Inv.intro ?_ ?_ ?_ ?_
    · refine { ok := hb.ok, box := ?_, map := ?_, inj := fun i j hi hj hij => hb.inj i j (hdom i hi) (hdom j hj) hij, free := fun i hi => hb.free i (hdom i hi), wr := fun i hi hl => hb.wr i (hdom i hi) hl, big := hb.big }
      · intro i cs hi
        rcases hent i with hq | hq | hq
        · rw [show St.ent { sl := sl, tb := keepTb base ids st.tb, lk := st.lk } i = st2.ent i from rfl, hq] at hi; exact hb.box i cs hi
        · rw [show St.ent { sl := sl, tb := keepTb base ids st.tb, lk := st.lk } i = st2.ent i from rfl, hq] at hi
          cases ho : st.ent i with
          | none => rw [ho] at hi; cases hi
          | some e =>
            rw [ho] at hi
            cases e with
            | map kv => simp [Ent.norm] at hi
            | box cs0 =>
              simp only [Option.map_some, Ent.norm, Option.some.injEq, Ent.box.injEq] at hi; subst hi
              obtain ⟨cur, ty, k1, k2⟩ := hb.box i cs0 ho
              exact ⟨cur, ty, k1, by simpa using k2⟩
        · rw [show St.ent { sl := sl, tb := keepTb base ids st.tb, lk := st.lk } i = st2.ent i from rfl, hq] at hi; cases hi
      · intro i kv hi
        rcases hent i with hq | hq | hq
        · rw [show St.ent { sl := sl, tb := keepTb base ids st.tb, lk := st.lk } i = st2.ent i from rfl, hq] at hi; exact hb.map i kv hi
        · rw [show St.ent { sl := sl, tb := keepTb base ids st.tb, lk := st.lk } i = st2.ent i from rfl, hq] at hi
          cases ho : st.ent i with
          | none => rw [ho] at hi; cases hi
          | some e =>
            rw [ho] at hi
            cases e with
            | box cs => simp [Ent.norm] at hi
            | map kv0 =>
              simp only [Option.map_some, Ent.norm, Option.some.injEq, Ent.map.injEq] at hi; subst hi
              obtain ⟨es, clock, k1, k2⟩ := hb.map i kv0 ho
              exact ⟨es, clock, k1, by rw [normKv_keys]; exact k2⟩
        · rw [show St.ent { sl := sl, tb := keepTb base ids st.tb, lk := st.lk } i = st2.ent i from rfl, hq] at hi; cases hi
    · intro o A hA hj hv
      cases o with
      | slot n =>
        rcases hslot n with hq | ⟨hq, hq2, hq3⟩
        · have : st2.slot n = A := hA
          rw [hq] at this; exact absurd this.symm hj
        · have hA' : st2.slot n = A := hA
          rw [hq] at hA'
          obtain ⟨u, k1, k2⟩ := h.place (.slot n) (st.slot n) rfl (norm_junk (by rw [hA']; exact hj)) hq2
          exact ⟨u, k1, by rw [← hA']; exact (k2.norm hdom fun i hi => hkind i (hq3 i hi)).2⟩
      | cell i c =>
        have hA' : cellOf (st2.ent i) c = A := hA
        obtain ⟨k1, k2⟩ := hcell i c (by rw [hA']; exact hj)
        have hnj : cellOf (st.ent i) c ≠ .junk := by
          rcases k1 with k1 | k1
          · rw [← k1, hA']; exact hj
          · exact norm_junk (by rw [← k1, hA']; exact hj)
        obtain ⟨u, m1, m2⟩ := h.heap.cells i c _ rfl hnj
        have m3 := m2.norm (T' := st2.ent) hdom fun j hj => hkind j (k2 j hj)
        refine ⟨u, m1, ?_⟩
        rcases k1 with k1 | k1
        · rw [← hA', k1]; exact m3.1
        · rw [← hA', k1]; exact m3.2
    · intro i c
      by_cases hj : cellOf (st2.ent i) c = .junk
      · show isView (cellOf (st2.ent i) c) = false
        rw [hj]; rfl
      · show isView (cellOf (st2.ent i) c) = false
        rcases (hcell i c hj).1 with hq | hq
        · rw [hq]; exact h.heap.noview i c
        · rw [hq, norm_view]; exact h.heap.noview i c
    · intro n A hA hv
      have hA' : st2.slot n = A := hA
      rcases hslot n with hq | ⟨hq, hq2, _⟩
      · rw [hq] at hA'; subst hA'; cases hv
      · rw [hq] at hA'; subst hA'
        rw [norm_view, hq2] at hv; cases hv
  unfold clear at hc
  split at hc
  · rename_i sl hk
    split at hc
    · rename_i htb
      have hcs := cond_some hc
      clear hc
      obtain ⟨hl, hc⟩ := hcs
      simp only [Option.some.injEq] at hc; subst hc
      have := main sl [] hk (by rw [htb]; exact hl) (by rw [htb]; rfl)
      rw [htb] at this
      exact ⟨this, rfl⟩
    · dsimp only at hc
      have hcs := cond_some hc
      clear hc
      obtain ⟨hl, hc⟩ := hcs
      simp only [Option.some.injEq] at hc; subst hc
      simp only [Bool.and_eq_true] at hl
      exact ⟨main sl _ hk hl.1 hl.2, rfl⟩
  · cases hc

end
end Go.Abs
end

section
namespace Go.Abs

/-! ## What an operation writes, wherever it comes -/

def Agree (ws wi : List Nat) (s s' : St) : Prop := (∀ t ∈ ws, s.slot t = s'.slot t) ∧ (∀ i ∈ wi, s.ent i = s'.ent i) ∧ s.lk = s'.lk

/-- From a state on: it writes there alone, and the same. -/
def Loc (ws wi : List Nat) (K : AV → Bool) (f : St → St) (s0 : St) : Prop :=
  ∀ s, Agree ws wi s s0 → (∀ t, t ∉ ws → K (s.slot t) = false) → Agree ws wi (f s) (f s0) ∧ (∀ t, t ∉ ws → (f s).slot t = s.slot t) ∧ (∀ i, i ∉ wi → (f s).ent i = s.ent i)

section
variable {ws wi : List Nat} {K : AV → Bool} {s0 : St}

theorem Loc.comp {f h : St → St} (h1 : Loc ws wi K f s0) (h2 : Loc ws wi K h (f s0)) : Loc ws wi K (fun s => h (f s)) s0 := by
  intro s ha hn
  obtain ⟨a1, a2, a3⟩ := h1 s ha hn
  obtain ⟨b1, b2, b3⟩ := h2 (f s) a1 (fun t ht => by rw [a2 t ht]; exact hn t ht)
  exact ⟨b1, fun t ht => (b2 t ht).trans (a2 t ht), fun i hi => (b3 i hi).trans (a3 i hi)⟩

theorem Loc.id : Loc ws wi K (fun s => s) s0 := fun _ ha _ => ⟨ha, fun _ _ => rfl, fun _ _ => rfl⟩

theorem Loc.fold {α : Type} {F : St → α → St} : ∀ (l : List α) (s0 : St), (∀ x ∈ l, ∀ s0, Loc ws wi K (fun s => F s x) s0) → Loc ws wi K (fun s => l.foldl F s) s0
  | [], s0, _ => Loc.id
  | x :: r, s0, h => by
    have h1 := h x (by simp) s0
    have h2 := Loc.fold r (F s0 x) (fun y hy => h y (by simp [hy]))
    exact Loc.comp h1 h2

theorem loc_setPlace (v : AV) (o : Org) (h1 : ∀ n ∈ o.slots, n ∈ ws) (h2 : ∀ i ∈ o.ids, i ∈ wi) : Loc ws wi K (fun s => s.setPlace v o) s0 := by
  intro s ⟨a1, a2, a3⟩ hn
  cases o with
  | slot n =>
    have hnw : n ∈ ws := h1 n (by simp [Org.slots])
    refine ⟨⟨fun t ht => ?_, fun i hi => a2 i hi, a3⟩, fun t ht => ?_, fun i hi => rfl⟩
    · simp only [St.setPlace, slot_cons]; rw [a1 t ht]
    · simp only [St.setPlace, slot_cons]
      rw [if_neg]; rintro rfl; exact ht hnw
  | cell id c =>
    have hid : id ∈ wi := h2 id (by simp [Org.ids])
    refine ⟨⟨fun t ht => ?_, fun i hi => ?_, ?_⟩, fun t ht => ?_, fun i hi => ?_⟩
    · simp only [St.setPlace, slot_setEnt]; exact a1 t ht
    · simp only [St.setPlace, ent_setEnt, a2 i hi, a2 id hid]
    · simp only [St.setPlace, lk_setEnt]; exact a3
    · simp only [St.setPlace, slot_setEnt]
    · simp only [St.setPlace, ent_setEnt]
      rw [if_neg]; rintro rfl; exact hi hid

theorem agree_at {s s' : St} (ha : Agree ws wi s s') {o : Org} (h1 : ∀ n ∈ o.slots, n ∈ ws) (h2 : ∀ i ∈ o.ids, i ∈ wi) : s.all.at_ o = s'.all.at_ o := by
  cases o with
  | slot n => exact ha.1 n (h1 n (by simp [Org.slots]))
  | cell id c => rw [at_cell, at_cell, ha.2.1 id (h2 id (by simp [Org.ids]))]

theorem loc_freeze1 (o : Org) (h1 : ∀ n ∈ o.slots, n ∈ ws) (h2 : ∀ i ∈ o.ids, i ∈ wi) : Loc ws wi K (fun s => s.freeze1 o) s0 := by
  intro s ha hn
  have hat := agree_at ha h1 h2
  simp only [St.freeze1]
  rw [hat]
  split
  · exact loc_setPlace _ o h1 h2 s ha hn
  · exact ⟨ha, fun _ _ => rfl, fun _ _ => rfl⟩

theorem loc_kill (p : AV → Bool) (hp : ∀ A, p A = true → K A = true) : Loc ws wi K (fun s => { s with sl := killIn p s.sl }) s0 := by
  intro s ⟨a1, a2, a3⟩ hn
  refine ⟨⟨fun t ht => ?_, fun i hi => a2 i hi, a3⟩, fun t ht => ?_, fun i hi => rfl⟩
  · simp only [slot_kill]; rw [a1 t ht]
  · simp only [slot_kill]
    rw [if_neg]
    intro hq
    have := hp _ hq
    rw [hn t ht] at this; cases this

theorem loc_kill1 (o : Org) (hp : ∀ A, AV.views o A = true → K A = true) : Loc ws wi K (fun s => s.kill1 o) s0 := loc_kill _ hp

theorem loc_take1 (o : Org) (hp : ∀ A, AV.views o A = true → K A = true) (h1 : ∀ n ∈ o.slots, n ∈ ws) (h2 : ∀ i ∈ o.ids, i ∈ wi) : Loc ws wi K (fun s => s.take1 o) s0 :=
  Loc.comp (loc_kill1 o hp) (loc_setPlace .junk o h1 h2)

theorem loc_setEnt (i : Nat) (f : Ent → Ent) (hi : i ∈ wi) : Loc ws wi K (fun s => s.setEnt i f) s0 := by
  intro s ⟨a1, a2, a3⟩ hn
  refine ⟨⟨fun t ht => ?_, fun j hj => ?_, ?_⟩, fun t ht => ?_, fun j hj => ?_⟩
  · simp only [slot_setEnt]; exact a1 t ht
  · simp only [ent_setEnt, a2 j hj, a2 i hi]
  · simp only [lk_setEnt]; exact a3
  · simp only [slot_setEnt]
  · simp only [ent_setEnt]
    rw [if_neg]; rintro rfl; exact hj hi

theorem find_none_of {α : Type} {j : Nat} : ∀ {l : List (Nat × α)}, (∀ x ∈ l, x.1 ≠ j) → find j l = none
  | [], _ => rfl
  | (k, v) :: r, h => by
    rw [find_cons, if_neg (h (k, v) (by simp))]
    exact find_none_of fun x hx => h x (by simp [hx])

theorem loc_ents (l : List (Nat × Ent)) (hl : ∀ x ∈ l, x.1 ∈ wi) : Loc ws wi K (fun s => { s with tb := l.foldr (fun (x : Nat × Ent) l => put1 x.1 x.2 l) s.tb }) s0 := by
  intro s ⟨a1, a2, a3⟩ hn
  refine ⟨⟨fun t ht => a1 t ht, fun j hj => ?_, a3⟩, fun t ht => rfl, fun j hj => ?_⟩
  · simp only [St.ent, find_foldr]
    split
    · rfl
    · exact a2 j hj
  · simp only [St.ent, find_foldr]
    rw [find_none_of (l := l) (fun x hx hq => hj (by rw [← hq]; exact hl x hx))]

theorem loc_setSlot (d : Nat) (v : AV) (hd : d ∈ ws) (hp : (s0.slot d).shown = true → ∀ A, AV.views (.slot d) A = true → K A = true) : Loc ws wi K (fun s => s.setSlot d v) s0 := by
  intro s ⟨a1, a2, a3⟩ hn
  refine ⟨⟨fun t ht => ?_, fun i hi => ?_, ?_⟩, fun t ht => ?_, fun i hi => ?_⟩
  · simp only [slot_setSlot]; rw [a1 t ht, a1 d hd]
  · simp only [ent_setSlot]; exact a2 i hi
  · simp only [lk_setSlot]; exact a3
  · simp only [slot_setSlot]
    rw [if_neg (by rintro rfl; exact ht hd), if_neg]
    intro hq
    simp only [Bool.and_eq_true] at hq
    rw [a1 d hd] at hq
    have := hp hq.1 _ hq.2
    rw [hn t ht] at this; cases this
  · simp only [ent_setSlot]

end

theorem anyViews_iff (l : List Org) (ids : List Nat) (A : AV) : anyViews l ids A = true ↔ (∃ o ∈ l, A.views o = true) ∨ A.viewsIn ids = true := by
  induction l with
  | nil => simp [anyViews]
  | cons o r ih =>
    simp only [anyViews]
    cases hv : A.views o with
    | true => simp [hv]
    | false => simp [hv, ih]

theorem mem_orgSlots {o : Org} {n : Nat} : ∀ {l : List Org}, o ∈ l → n ∈ o.slots → n ∈ orgSlots l
  | [], h, _ => by simp at h
  | p :: r, h, hn => by
    simp only [orgSlots, List.mem_append]
    rcases List.mem_cons.1 h with rfl | h
    · exact .inl hn
    · exact .inr (mem_orgSlots h hn)
theorem mem_orgIds {o : Org} {n : Nat} : ∀ {l : List Org}, o ∈ l → n ∈ o.ids → n ∈ orgIds l
  | [], h, _ => by simp at h
  | p :: r, h, hn => by
    simp only [orgIds, List.mem_append]
    rcases List.mem_cons.1 h with rfl | h
    · exact .inl hn
    · exact .inr (mem_orgIds h hn)
theorem mem_placesOf {o : Org} {v : AV} : ∀ {l : List (Org × AV)}, (o, v) ∈ l → o ∈ placesOf l
  | [], h => by simp at h
  | (p, u) :: r, h => by
    simp only [placesOf]
    rcases List.mem_cons.1 h with h | h
    · simp only [Prod.mk.injEq] at h; rw [h.1]; simp
    · exact List.mem_cons_of_mem _ (mem_placesOf h)
theorem mem_numsOf {i : Nat} {e : Ent} : ∀ {l : List (Nat × Ent)}, (i, e) ∈ l → i ∈ numsOf l
  | [], h => by simp at h
  | (k, u) :: r, h => by
    simp only [numsOf]
    rcases List.mem_cons.1 h with h | h
    · simp only [Prod.mk.injEq] at h; rw [h.1]; simp
    · exact List.mem_cons_of_mem _ (mem_numsOf h)
theorem mem_growIds {i : Nat} {e : ByteArray × AV} : ∀ {l : List (Nat × ByteArray × AV)}, (i, e) ∈ l → i ∈ growIds l
  | [], h => by simp at h
  | (k, u) :: r, h => by
    simp only [growIds]
    rcases List.mem_cons.1 h with h | h
    · simp only [Prod.mk.injEq] at h; rw [h.1]; simp
    · exact List.mem_cons_of_mem _ (mem_growIds h)

/-- What a stage leaves shown was shown. -/
def Dims (d : Nat) (f : St → St) : Prop := ∀ s, ((f s).slot d).shown = true → (s.slot d).shown = true
theorem Dims.fold {α : Type} {d : Nat} {F : St → α → St} : ∀ (l : List α), (∀ x ∈ l, Dims d (fun s => F s x)) → Dims d (fun s => l.foldl F s)
  | [], _ => fun _ h => h
  | x :: r, h => fun s hs => h x (by simp) s (Dims.fold r (fun y hy => h y (by simp [hy])) (F s x) hs)
theorem dims_freeze1 (d : Nat) (o : Org) : Dims d (fun s => s.freeze1 o) := by
  intro s hs
  rcases (frz_freeze1 s o).at_ (.slot d) with h | ⟨e, xs, h, _⟩
  · rw [at_slot, at_slot] at h; rw [← h]; exact hs
  · rw [at_slot] at h; rw [h]; rfl
theorem dims_kill (d : Nat) (p : AV → Bool) : Dims d (fun s => { s with sl := killIn p s.sl }) := by
  intro s hs
  simp only [slot_kill] at hs
  split at hs
  · cases hs
  · exact hs
theorem dims_setPlace (d : Nat) (v : AV) (o : Org) (h : d ∉ o.slots ∨ v.shown = false) : Dims d (fun s => s.setPlace v o) := by
  intro s hs
  cases o with
  | slot n =>
    simp only [St.setPlace, slot_cons] at hs
    by_cases hnd : n = d
    · subst hnd
      rcases h with h | h
      · exact absurd (by simp [Org.slots]) h
      · rw [if_pos rfl, h] at hs; cases hs
    · rw [if_neg hnd] at hs; exact hs
  | cell id c => simpa only [St.setPlace, slot_setEnt] using hs
theorem dims_take1 (d : Nat) (o : Org) : Dims d (fun s => s.take1 o) := fun s hs => dims_kill d (AV.views o) s (dims_setPlace d .junk o (.inr rfl) _ hs)

/-- The stages ahead of the slot's. -/
def St.pre (st : St) (out : Out) : St :=
  let st := out.frz.foldl St.freeze1 st
  let st := out.take.foldl St.take1 st
  let st := out.kill.foldl St.kill1 st
  let st : St := { st with sl := killIn (AV.viewsIn out.kids) st.sl }
  let st := out.puts.foldl (fun st (x : Org × AV) => st.setPlace x.2 x.1) st
  let st := out.grow.foldl (fun st (x : Nat × ByteArray × AV) => st.setEnt x.1 (growEnt x.2)) st
  { st with tb := out.ents.foldr (fun (x : Nat × Ent) l => put1 x.1 x.2 l) st.tb }

theorem put_pre (st : St) (dst : Option Nat) (out : Out) : st.put dst out = match dst with | some d => (st.pre out).setSlot d out.v | none => st.pre out := by
  have h0 : ∀ s : St, killIn (AV.viewsIn []) s.sl = s.sl := fun s => killIn_none _ (fun A => by
    cases A with
    | vw o k => cases o <;> rfl
    | vp o j off => cases o <;> rfl
    | _ => rfl) _
  obtain ⟨v, frz, take, kill, puts, grow, ents, kids⟩ := out
  unfold St.put St.pre
  cases kids <;> cases ents <;> simp only [h0] <;> rfl

theorem foot_loc {base : Nat} {ops : List Oper} {st : St} {o : Oper} {out : Out} : Loc (footOf base ops st o out).ws (footOf base ops st o out).wi (anyViews (footOf base ops st o out).kl (footOf base ops st o out).kids) (fun s => s.put o.dst out) st := by
  have hws : ∀ p ∈ out.frz ++ (out.take ++ (out.kill ++ placesOf out.puts)), (∀ n ∈ p.slots, n ∈ (footOf base ops st o out).ws) ∧ (∀ i ∈ p.ids, i ∈ (footOf base ops st o out).wi) := by
    intro p hp
    refine ⟨fun n hn => ?_, fun i hi => ?_⟩
    · simp only [footOf]
      exact List.mem_append_right _ (List.mem_append_left _ (mem_orgSlots hp hn))
    · simp only [footOf]
      exact List.mem_append_left _ (mem_orgIds hp hi)
  have hk : ∀ p ∈ out.take ++ (out.kill ++ dstKill st (placesOf out.puts) o.dst), ∀ A, AV.views p A = true → anyViews (footOf base ops st o out).kl (footOf base ops st o out).kids A = true := by
    intro p hp A hA
    rw [anyViews_iff]
    exact .inl ⟨p, hp, hA⟩
  have hdw : ∀ d, o.dst = some d → d ∈ (footOf base ops st o out).ws := by
    intro d hd
    simp only [footOf, hd]
    simp
  generalize (footOf base ops st o out).ws = ws at hws hdw ⊢
  have hwi : (∀ x ∈ out.grow, x.1 ∈ (footOf base ops st o out).wi) ∧ (∀ x ∈ out.ents, x.1 ∈ (footOf base ops st o out).wi) := by
    refine ⟨fun x hx => ?_, fun x hx => ?_⟩
    · simp only [footOf]
      exact List.mem_append_right _ (List.mem_append_right _ (List.mem_append_right _ (mem_growIds (e := x.2) hx)))
    · simp only [footOf]
      exact List.mem_append_right _ (List.mem_append_right _ (List.mem_append_left _ (mem_numsOf (e := x.2) hx)))
  have hkids : ∀ A, AV.viewsIn out.kids A = true → anyViews (footOf base ops st o out).kl (footOf base ops st o out).kids A = true := fun A hA => (anyViews_iff _ _ _).2 (.inr hA)
  generalize anyViews (footOf base ops st o out).kl (footOf base ops st o out).kids = K at hk hkids ⊢
  generalize (footOf base ops st o out).wi = wi at hws hwi ⊢
  have hpre : Loc ws wi K (fun s => s.pre out) st := by
    unfold St.pre
    have l1 : Loc ws wi K (fun s => out.frz.foldl St.freeze1 s) st := Loc.fold _ _ fun p hp s0 => loc_freeze1 p (hws p (by simp [hp])).1 (hws p (by simp [hp])).2
    have l2 : ∀ s0, Loc ws wi K (fun s => out.take.foldl St.take1 s) s0 := fun s0 => Loc.fold _ _ fun p hp s0 => loc_take1 p (hk p (by simp [hp])) (hws p (by simp [hp])).1 (hws p (by simp [hp])).2
    have l3 : ∀ s0, Loc ws wi K (fun s => out.kill.foldl St.kill1 s) s0 := fun s0 => Loc.fold _ _ fun p hp s0 => loc_kill1 p (hk p (by simp [hp]))
    have l4 : ∀ s0, Loc ws wi K (fun s => { s with sl := killIn (AV.viewsIn out.kids) s.sl }) s0 := fun s0 => loc_kill _ hkids
    have l5 : ∀ s0, Loc ws wi K (fun s => out.puts.foldl (fun st (x : Org × AV) => st.setPlace x.2 x.1) s) s0 := fun s0 => Loc.fold _ _ fun x hx s0 => loc_setPlace x.2 x.1 (hws x.1 (by simp [mem_placesOf (v := x.2) hx])).1 (hws x.1 (by simp [mem_placesOf (v := x.2) hx])).2
    have l6 : ∀ s0, Loc ws wi K (fun s => out.grow.foldl (fun st (x : Nat × ByteArray × AV) => st.setEnt x.1 (growEnt x.2)) s) s0 := fun s0 => Loc.fold _ _ fun x hx s0 => loc_setEnt x.1 _ (hwi.1 x hx)
    have l7 : ∀ s0, Loc ws wi K (fun s => { s with tb := out.ents.foldr (fun (x : Nat × Ent) l => put1 x.1 x.2 l) s.tb }) s0 := fun s0 => loc_ents _ hwi.2
    exact Loc.comp (Loc.comp (Loc.comp (Loc.comp (Loc.comp (Loc.comp l1 (l2 _)) (l3 _)) (l4 _)) (l5 _)) (l6 _)) (l7 _)
  have heq : (fun s : St => s.put o.dst out) = fun s => match o.dst with | some d => (s.pre out).setSlot d out.v | none => s.pre out := funext fun s => put_pre s o.dst out
  rw [heq]
  cases hdst : o.dst with
  | none => exact hpre
  | some d =>
    refine Loc.comp hpre (loc_setSlot d out.v (hdw d hdst) ?_)
    intro hsh A hA
    refine hk (.slot d) ?_ A hA
    suffices hin : Org.slot d ∈ dstKill st (placesOf out.puts) o.dst by simp [hin]
    rw [hdst]
    unfold dstKill
    cases h1 : (st.slot d).shown with
    | true => simp [h1]
    | false =>
      cases h2 : has d (orgSlots (placesOf out.puts)) with
      | true => simp [h1, h2]
      | false =>
        exfalso
        have hnot : ∀ x ∈ out.puts, d ∉ x.1.slots := by
          intro x hx hd
          have := mem_orgSlots (mem_placesOf (v := x.2) hx) hd
          rw [← has_iff, h2] at this
          cases this
        have hd : Dims d (fun s => s.pre out) := by
          unfold St.pre
          intro s hs
          have e1 := hs
          have d6 : Dims d (fun s => out.grow.foldl (fun st (x : Nat × ByteArray × AV) => st.setEnt x.1 (growEnt x.2)) s) := Dims.fold _ fun x _ s hs => by simpa only [slot_setEnt] using hs
          have d5 : Dims d (fun s => out.puts.foldl (fun st (x : Org × AV) => st.setPlace x.2 x.1) s) := Dims.fold _ fun x hx => dims_setPlace d x.2 x.1 (.inl (hnot x hx))
          have d3 : Dims d (fun s => out.kill.foldl St.kill1 s) := Dims.fold _ fun x _ => dims_kill d (AV.views x)
          have d2 : Dims d (fun s => out.take.foldl St.take1 s) := Dims.fold _ fun x _ => dims_take1 d x
          have d1 : Dims d (fun s => out.frz.foldl St.freeze1 s) := Dims.fold _ fun x _ => dims_freeze1 d x
          exact d1 _ (d2 _ (d3 _ (dims_kill d (AV.viewsIn out.kids) _ (d5 _ (d6 _ e1)))))
        have := hd st hsh
        rw [h1] at this; cases this

end Go.Abs
end

section
namespace Go.Abs

/-! ## What the checks say -/

theorem bitsOf_spec {acc : List Nat} : ∀ {es : List Edge} {b : Nat}, bitsOf acc es = some b → (∀ e ∈ es, Region.binds .any e = true → e.on < acc.length) ∧
    ∀ j, b.testBit j = true → ∃ e ∈ es, Region.binds .any e = true ∧ (j = e.on ∨ ∃ b', acc[e.on]? = some b' ∧ b'.testBit j = true)
  | [], b, h => by
    simp only [bitsOf, Option.some.injEq] at h; subst h
    simp
  | e :: r, b, h => by
    simp only [bitsOf] at h
    split at h
    · rename_i s hs
      obtain ⟨h1, h2⟩ := bitsOf_spec hs
      cases hb : Region.binds .any e with
      | false =>
        rw [hb] at h
        simp only [Option.some.injEq] at h; subst h
        refine ⟨fun e' he' hb' => ?_, fun j hj => ?_⟩
        · rcases List.mem_cons.1 he' with rfl | he'
          · rw [hb] at hb'; cases hb'
          · exact h1 e' he' hb'
        · obtain ⟨e', he', k⟩ := h2 j hj
          exact ⟨e', List.mem_cons_of_mem _ he', k⟩
      | true =>
        rw [hb] at h
        simp only at h
        split at h
        · rename_i b' hb'
          simp only [Option.some.injEq] at h; subst h
          refine ⟨fun e' he' hbe => ?_, fun j hj => ?_⟩
          · rcases List.mem_cons.1 he' with rfl | he'
            · exact (List.getElem?_eq_some_iff.1 hb').1
            · exact h1 e' he' hbe
          · simp only [Nat.testBit_or, Bool.or_eq_true] at hj
            rcases hj with hj | hj | hj
            · obtain ⟨e', he', k⟩ := h2 j hj
              exact ⟨e', List.mem_cons_of_mem _ he', k⟩
            · refine ⟨e, by simp, hb, .inl ?_⟩
              rw [Nat.testBit_two_pow] at hj
              exact (of_decide_eq_true hj).symm
            · exact ⟨e, by simp, hb, .inr ⟨b', hb', hj⟩⟩
        · cases h
    · cases h

theorem befores_spec : ∀ (ops : List Oper) (acc bs : List Nat), befores acc ops = some bs → ∃ l, bs = acc ++ l ∧ l.length = ops.length ∧ ∀ (k : Nat) o, ops[k]? = some o → ∃ b, l[k]? = some b ∧ bitsOf (acc ++ l.take k) o.after.toList = some b
  | [], acc, bs, h => by
    simp only [befores, Option.some.injEq] at h; subst h
    exact ⟨[], by simp, rfl, by simp⟩
  | o :: r, acc, bs, h => by
    simp only [befores] at h
    split at h
    · rename_i b hb
      obtain ⟨l, h1, h2, h3⟩ := befores_spec r (acc ++ [b]) bs h
      refine ⟨b :: l, by rw [h1]; simp, by simp [h2], fun k o' hk => ?_⟩
      cases k with
      | zero => simp at hk; subst hk; exact ⟨b, rfl, by simpa using hb⟩
      | succ k =>
        obtain ⟨b', k1, k2⟩ := h3 k o' (by simpa using hk)
        exact ⟨b', by simpa using k1, by simpa [List.append_assoc] using k2⟩
    · cases h

theorem apartFrom_spec {b : Nat} {f : Foot} : ∀ {i : Nat} {l : List Foot}, apartFrom b f i l = true → ∀ (j : Nat) g, l[j]? = some g → b.testBit (i + j) = true ∨ Foot.apart g f = true
  | i, [], _, j, g, hj => by simp at hj
  | i, x :: r, h, j, g, hj => by
    simp only [apartFrom] at h
    cases hb : b.testBit i with
    | true =>
      rw [hb] at h
      cases j with
      | zero => left; simpa using hb
      | succ j =>
        have := apartFrom_spec h j g (by simpa using hj)
        rw [show i + 1 + j = i + (j + 1) by omega] at this
        exact this
    | false =>
      rw [hb] at h
      simp only [cond_false] at h
      cases ha : Foot.apart x f with
      | false => rw [ha] at h; cases h
      | true =>
        rw [ha] at h
        cases j with
        | zero => simp at hj; subst hj; exact .inr ha
        | succ j =>
          have := apartFrom_spec h j g (by simpa using hj)
          rw [show i + 1 + j = i + (j + 1) by omega] at this
          exact this

theorem orderedFrom_spec : ∀ {fs seen : List Foot} {bs : List Nat}, orderedFrom seen bs fs = true → ∀ (k : Nat) f, fs[k]? = some f → ∃ b, bs[k]? = some b ∧ ∀ (j : Nat) g, (seen ++ fs)[j]? = some g → j < seen.length + k → b.testBit j = true ∨ Foot.apart g f = true
  | [], seen, bs, _, k, f, hk => by simp at hk
  | x :: r, seen, [], h, k, f, hk => by simp [orderedFrom] at h
  | x :: r, seen, b :: bs, h, k, f, hk => by
    simp only [orderedFrom] at h
    cases ha : apartFrom b x 0 seen with
    | false => rw [ha] at h; cases h
    | true =>
      rw [ha] at h
      simp only [cond_true] at h
      cases k with
      | zero =>
        simp at hk; subst hk
        refine ⟨b, rfl, fun j g hj hlt => ?_⟩
        rw [List.getElem?_append_left (by omega)] at hj
        simpa using apartFrom_spec ha j g hj
      | succ k =>
        obtain ⟨b', k1, k2⟩ := orderedFrom_spec h k f (by simpa using hk)
        exact ⟨b', by simpa using k1, fun j g hj hlt => k2 j g (by simpa using hj) (by simp; omega)⟩

theorem disj_not {l m : List Nat} (h : disj l m = true) {t : Nat} (h1 : t ∈ l) : t ∉ m := by
  intro h2
  have := disj_spec h t ((has_iff t l).2 h1)
  rw [(has_iff t m).2 h2] at this; cases this

structure Apart (a b : Foot) : Prop where
  ww : ∀ t ∈ a.ws, t ∉ b.ws
  wr : ∀ t ∈ a.ws, t ∉ b.rs
  rw : ∀ t ∈ a.rs, t ∉ b.ws
  iww : ∀ t ∈ a.wi, t ∉ b.wi
  iwr : ∀ t ∈ a.wi, t ∉ b.ri
  irw : ∀ t ∈ a.ri, t ∉ b.wi
theorem Foot.apart_spec {a b : Foot} (h : Foot.apart a b = true) : Apart a b := by
  unfold Foot.apart at h
  simp only [Bool.and_eq_true] at h
  obtain ⟨h1, h2, h3, h4, h5, h6⟩ := h
  exact ⟨fun t ht => disj_not h1 ht, fun t ht => disj_not h2 ht, fun t ht => disj_not h3 ht, fun t ht => disj_not h4 ht, fun t ht => disj_not h5 ht, fun t ht => disj_not h6 ht⟩

theorem endsIn_spec {f : Foot} {cov : List Nat} : ∀ {l : List (Nat × AV)}, endsIn f cov l = true → ∀ t v, (t, v) ∈ l → anyViews f.kl f.kids v = true → t ∈ f.ws ∨ t ∈ cov
  | [], _, t, v, hm, _ => by simp at hm
  | (t', v') :: r, h, t, v, hm, hv => by
    simp only [endsIn] at h
    rcases List.mem_cons.1 hm with hm | hm
    · simp only [Prod.mk.injEq] at hm
      obtain ⟨rfl, rfl⟩ := hm
      rw [hv] at h
      simp only [cond_true] at h
      cases h1 : has t f.ws with
      | true => exact .inl ((has_iff _ _).1 h1)
      | false =>
        rw [h1] at h
        simp only [cond_false] at h
        cases h2 : has t cov with
        | true => exact .inr ((has_iff _ _).1 h2)
        | false => rw [h2] at h; cases h
    · have h' : endsIn f cov r = true := by
        cases hk : anyViews f.kl f.kids v' with
        | false => rw [hk] at h; exact h
        | true =>
          rw [hk] at h
          simp only [cond_true] at h
          cases h1 : has t' f.ws with
          | true => rw [h1] at h; exact h
          | false =>
            rw [h1] at h
            simp only [cond_false] at h
            cases h2 : has t' cov with
            | true => rw [h2] at h; exact h
            | false => rw [h2] at h; cases h
      exact endsIn_spec h' t v hm hv

theorem endsAll_spec {b : Nat} {f : Foot} : ∀ {m : Nat} {gs : List Foot} {Ws : List (List (Nat × AV))} {cov : List Nat}, endsAll b f m gs Ws = some cov →
    (∀ t ∈ cov, ∃ (k : Nat) (g : Foot), gs[k]? = some g ∧ t ∈ g.ws ∧ b.testBit (m + k) = true) ∧
    ∀ (k : Nat) W, k < gs.length → Ws[k]? = some W → ∀ t v, (t, v) ∈ W → anyViews f.kl f.kids v = true → t ∈ f.ws ∨ ∃ (k' : Nat) (g : Foot), k < k' ∧ gs[k']? = some g ∧ t ∈ g.ws ∧ b.testBit (m + k') = true
  | m, [], Ws, cov, h => by
    simp only [endsAll, Option.some.injEq] at h; subst h
    simp
  | m, g :: gs, [], cov, h => by simp [endsAll] at h
  | m, g :: gs, W :: Ws, cov, h => by
    simp only [endsAll] at h
    split at h
    · rename_i cov' hc
      obtain ⟨h1, h2⟩ := endsAll_spec hc
      have hcs := cond_some h
      clear h
      obtain ⟨he, h⟩ := hcs
      simp only [Option.some.injEq] at h; subst h
      have hcov' : ∀ t ∈ cov', ∃ (k : Nat) (g' : Foot), 0 < k ∧ (g :: gs)[k]? = some g' ∧ t ∈ g'.ws ∧ b.testBit (m + k) = true := by
        intro t ht
        obtain ⟨k, g', k1, k2, k3⟩ := h1 t ht
        exact ⟨k + 1, g', by omega, by simpa using k1, k2, by rw [show m + (k + 1) = m + 1 + k by omega]; exact k3⟩
      refine ⟨fun t ht => ?_, fun k W' hk hW t v hm hv => ?_⟩
      · cases hb : b.testBit m with
        | true =>
          rw [hb] at ht
          simp only [cond_true, List.mem_append] at ht
          rcases ht with ht | ht
          · exact ⟨0, g, rfl, ht, by simpa using hb⟩
          · obtain ⟨k, g', _, k1, k2, k3⟩ := hcov' t ht
            exact ⟨k, g', k1, k2, k3⟩
        | false =>
          rw [hb] at ht
          obtain ⟨k, g', _, k1, k2, k3⟩ := hcov' t ht
          exact ⟨k, g', k1, k2, k3⟩
      · cases k with
        | zero =>
          simp at hW; subst hW
          rcases endsIn_spec he t v hm hv with hq | hq
          · exact .inl hq
          · exact .inr (hcov' t hq)
        | succ k =>
          rcases h2 k W' (by simpa using hk) (by simpa using hW) t v hm hv with hq | ⟨k', g', q1, q2, q3, q4⟩
          · exact .inl hq
          · exact .inr ⟨k' + 1, g', by omega, by simpa using q2, q3, by rw [show m + (k' + 1) = m + 1 + k' by omega]; exact q4⟩
    · cases h

theorem noKills_spec {kl : List Org} {kids : List Nat} (h : noKills kl kids = true) (v : AV) : anyViews kl kids v = false := by
  cases kl <;> cases kids <;> simp [noKills] at h
  cases v with
  | vw o k => cases o <;> rfl
  | vp o j off => cases o <;> rfl
  | _ => rfl

theorem viewsOK_spec {sl : List (Nat × AV)} {fs : List Foot} {Ws : List (List (Nat × AV))} : ∀ {bs : List Nat} {l : List Foot}, viewsOK sl fs Ws bs l = true → ∀ (k : Nat) f b, l[k]? = some f → bs[k]? = some b →
    (∀ t v, (t, v) ∈ sl → anyViews f.kl f.kids v = true → t ∈ f.ws ∨ ∃ (k' : Nat) (g : Foot), fs[k']? = some g ∧ t ∈ g.ws ∧ b.testBit k' = true) ∧
    (∀ (m : Nat) W, m < fs.length → Ws[m]? = some W → ∀ t v, (t, v) ∈ W → anyViews f.kl f.kids v = true → t ∈ f.ws ∨ ∃ (k' : Nat) (g : Foot), m < k' ∧ fs[k']? = some g ∧ t ∈ g.ws ∧ b.testBit k' = true)
  | bs, [], _, k, f, b, hk, _ => by simp at hk
  | [], x :: r, _, k, f, b, _, hb => by simp at hb
  | b0 :: bs, x :: r, h, k, f, b, hk, hb => by
    simp only [viewsOK] at h
    cases k with
    | succ k =>
      refine viewsOK_spec (bs := bs) (l := r) ?_ k f b (by simpa using hk) (by simpa using hb)
      cases hn : noKills x.kl x.kids with
      | true => rw [hn] at h; exact h
      | false =>
        rw [hn] at h
        simp only [cond_false] at h
        split at h
        · rename_i cov _
          cases he : endsIn x cov sl with
          | true => rw [he] at h; exact h
          | false => rw [he] at h; cases h
        · cases h
    | zero =>
      simp at hk hb
      subst hk; subst hb
      cases hn : noKills x.kl x.kids with
      | true =>
        refine ⟨fun t v _ hv => ?_, fun m W _ _ t v _ hv => ?_⟩ <;> rw [noKills_spec hn v] at hv <;> cases hv
      | false =>
        rw [hn] at h
        simp only [cond_false] at h
        split at h
        · rename_i cov hc
          obtain ⟨h1, h2⟩ := endsAll_spec hc
          cases he : endsIn x cov sl with
          | false => rw [he] at h; cases h
          | true =>
            refine ⟨fun t v hm hv => ?_, fun m W hm hW t v hmem hv => ?_⟩
            · rcases endsIn_spec he t v hm hv with hq | hq
              · exact .inl hq
              · obtain ⟨k, g, k1, k2, k3⟩ := h1 t hq
                exact .inr ⟨k, g, k1, k2, by simpa using k3⟩
            · rcases h2 m W hm hW t v hmem hv with hq | ⟨k', g', q1, q2, q3, q4⟩
              · exact .inl hq
              · exact .inr ⟨k', g', q1, q2, q3, by simpa using q4⟩
        · cases h

/-! ## The states in the order of the text -/

structure Texts (G : Ctx) (call : CallF) (base nt : Nat) (kept : List Nat) (ops : List Oper) (l : List Oper) (st st' : St) (fs : List Foot) (Ws : List (List (Nat × AV))) (S : Nat → St) (O : Nat → Out) : Prop where
  first : S 0 = st
  last : S l.length = st'
  len : fs.length = l.length
  step : ∀ (k : Nat) o, l[k]? = some o → stepOut G call base nt kept ops (mask (S k) (looksSl ops (S k) o) (looksId base (S k) o)) (idsFor (S k) o) o = some (O k) ∧ S (k + 1) = (S k).put o.dst (O k) ∧
    fs[k]? = some (footOf base ops (S k) o (O k)) ∧ Ws[k]? = some (slotsAt (S (k + 1)) (footOf base ops (S k) o (O k)).ws)

theorem runFeet_texts {G : Ctx} {call : CallF} {base nt : Nat} {kept : List Nat} {ops : List Oper} : ∀ {l : List Oper} {st st' : St} {fs : List Foot} {Ws : List (List (Nat × AV))}, runFeet G call base nt kept ops l st = some (st', fs, Ws) →
    ∃ S O, Texts G call base nt kept ops l st st' fs Ws S O
  | [], st, st', fs, Ws, h => by
    simp only [runFeet, Option.some.injEq, Prod.mk.injEq] at h
    obtain ⟨rfl, rfl, rfl⟩ := h
    exact ⟨fun _ => st, fun _ => default, rfl, rfl, rfl, by simp⟩
  | o :: r, st, st', fs, Ws, h => by
    simp only [runFeet] at h
    split at h
    · rename_i out hout
      split at h
      · rename_i st2 fs2 Ws2 h2
        simp only [Option.some.injEq, Prod.mk.injEq] at h
        obtain ⟨rfl, rfl, rfl⟩ := h
        obtain ⟨S, O, t⟩ := runFeet_texts h2
        refine ⟨fun k => match k with | 0 => st | k + 1 => S k, fun k => match k with | 0 => out | k + 1 => O k, rfl, t.last, by simp [t.len], fun k o' hk => ?_⟩
        cases k with
        | zero =>
          simp at hk; subst hk
          refine ⟨hout, t.first, rfl, ?_⟩
          show some (slotsAt (st.put o.dst out) (footOf base ops st o out).ws) = some (slotsAt (S 0) _)
          rw [t.first]
        | succ k => simpa using t.step k o' (by simpa using hk)
      · cases h
    · cases h

theorem mem_slotsAt {s : St} {t : Nat} : ∀ {l : List Nat}, t ∈ l → (t, s.slot t) ∈ slotsAt s l
  | [], h => by simp at h
  | k :: r, h => by
    simp only [slotsAt]
    rcases List.mem_cons.1 h with rfl | h
    · simp
    · exact List.mem_cons_of_mem _ (mem_slotsAt h)

theorem mem_viewers {kl : List Org} {ids : List Nat} {t : Nat} {v : AV} : ∀ {l : List (Nat × AV)}, (t, v) ∈ l → anyViews kl ids v = true → t ∈ viewers kl ids l
  | [], h, _ => by simp at h
  | (k, u) :: r, h, hv => by
    simp only [viewers]
    rcases List.mem_cons.1 h with h | h
    · simp only [Prod.mk.injEq] at h
      obtain ⟨rfl, rfl⟩ := h
      simp [hv]
    · have := mem_viewers (l := r) h hv
      cases anyViews kl ids u <;> simp [this]

/-- In the state of the text nothing else is ended. -/
theorem foot_nv {base : Nat} {ops : List Oper} {st : St} {o : Oper} {out : Out} (t : Nat) (ht : t ∉ (footOf base ops st o out).ws) : anyViews (footOf base ops st o out).kl (footOf base ops st o out).kids (st.slot t) = false := by
  cases hv : anyViews (footOf base ops st o out).kl (footOf base ops st o out).kids (st.slot t) with
  | false => rfl
  | true =>
    exfalso
    apply ht
    have hmem : (t, st.slot t) ∈ st.sl := by
      unfold St.slot at hv ⊢
      cases hf : find t st.sl with
      | none =>
        rw [hf] at hv
        rw [anyViews_iff] at hv
        rcases hv with ⟨o', _, hv⟩ | hv <;> cases hv
      | some v => exact find_mem hf
    have hw := mem_viewers (kl := (footOf base ops st o out).kl) (ids := (footOf base ops st o out).kids) hmem hv
    simp only [footOf] at hw hv ⊢
    refine List.mem_append_right _ (List.mem_append_right _ ?_)
    cases hn : noKills (out.take ++ (out.kill ++ dstKill st (placesOf out.puts) o.dst)) out.kids with
    | true => rw [noKills_spec hn] at hv; cases hv
    | false => exact hw

theorem agree_refl (ws wi : List Nat) (s : St) : Agree ws wi s s := ⟨fun _ _ => rfl, fun _ _ => rfl, rfl⟩

end Go.Abs
end

section
namespace Go.Abs

theorem lk_foldl {α : Type} {F : St → α → St} (h : ∀ s x, (F s x).lk = s.lk) : ∀ (l : List α) (s : St), (l.foldl F s).lk = s.lk
  | [], s => rfl
  | x :: r, s => (lk_foldl h r (F s x)).trans (h s x)
theorem lk_freeze1 (s : St) (o : Org) : (s.freeze1 o).lk = s.lk := (frz_freeze1 s o).lk
theorem lk_take1 (s : St) (o : Org) : (s.take1 o).lk = s.lk := lk_setPlace _ _ _
theorem lk_put (st : St) (dst : Option Nat) (out : Out) : (st.put dst out).lk = st.lk := by
  have hpre : (st.pre out).lk = st.lk := by
    unfold St.pre
    show (List.foldl (fun (st : St) (x : Nat × ByteArray × AV) => st.setEnt x.1 (growEnt x.2)) _ out.grow).lk = st.lk
    rw [lk_foldl (fun s x => lk_setEnt s _ _), lk_foldl (fun s (x : Org × AV) => lk_setPlace s _ _)]
    show (List.foldl St.kill1 _ out.kill).lk = st.lk
    rw [lk_foldl (F := St.kill1) (fun s x => rfl), lk_foldl lk_take1, lk_foldl lk_freeze1]
  rw [put_pre]
  cases dst with
  | none => exact hpre
  | some d => simp only [lk_setSlot]; exact hpre

/-- A value that some steps write: whence it is. -/
def Sel {α : Type} (Wt : Nat → Prop) (L : List Nat) (val : Nat → α) (v : α) : Prop :=
  (∃ m ∈ L, Wt m ∧ (∀ m' ∈ L, Wt m' → m' ≤ m) ∧ v = val (m + 1)) ∨ ((∀ m ∈ L, ¬ Wt m) ∧ v = val 0)

theorem sel_text {α : Type} {Wt : Nat → Prop} {val : Nat → α} (n : Nat) (h : ∀ k, k < n → ¬ Wt k → val (k + 1) = val k) : ∀ i, i ≤ n →
    (∃ m, m < i ∧ Wt m ∧ (∀ m', m' < i → Wt m' → m' ≤ m) ∧ val i = val (m + 1)) ∨ ((∀ m, m < i → ¬ Wt m) ∧ val i = val 0)
  | 0, _ => .inr ⟨fun m hm => absurd hm (Nat.not_lt_zero m), rfl⟩
  | i + 1, hi => by
    by_cases hw : Wt i
    · exact .inl ⟨i, Nat.lt_succ_self i, hw, fun m' hm' _ => Nat.le_of_lt_succ hm', rfl⟩
    · have hv := h i (by omega) hw
      rcases sel_text n h i (by omega) with ⟨m, h1, h2, h3, h4⟩ | ⟨h1, h2⟩
      · refine .inl ⟨m, by omega, h2, fun m' hm' hw' => ?_, hv.trans h4⟩
        rcases Nat.lt_or_ge m' i with hlt | hge
        · exact h3 m' hlt hw'
        · have : m' = i := by omega
          subst this; exact absurd hw' hw
      · refine .inr ⟨fun m hm hw' => ?_, hv.trans h2⟩
        rcases Nat.lt_or_ge m i with hlt | hge
        · exact h1 m hlt hw'
        · have : m = i := by omega
          subst this; exact absurd hw' hw

theorem sel_agree {α : Type} {Wt : Nat → Prop} {val : Nat → α} {L : List Nat} {v : α} {i : Nat} (hs : Sel Wt L val v)
    (ht : (∃ m, m < i ∧ Wt m ∧ (∀ m', m' < i → Wt m' → m' ≤ m) ∧ val i = val (m + 1)) ∨ ((∀ m, m < i → ¬ Wt m) ∧ val i = val 0))
    (h1 : ∀ m ∈ L, Wt m → m < i) (h2 : ∀ m, m < i → Wt m → m ∈ L) : v = val i := by
  rcases hs with ⟨m, a1, a2, a3, a4⟩ | ⟨a1, a2⟩
  · rcases ht with ⟨k, b1, b2, b3, b4⟩ | ⟨b1, b2⟩
    · have e1 := b3 m (h1 m a1 a2) a2
      have e2 := a3 k (h2 k b1 b2) b2
      have : m = k := by omega
      subst this
      rw [a4, b4]
    · exact absurd a2 (b1 m (h1 m a1 a2))
  · rcases ht with ⟨k, b1, b2, b3, b4⟩ | ⟨b1, b2⟩
    · exact absurd b2 (a1 k (h2 k b1 b2))
    · rw [a2, b2]

theorem nodup_len : ∀ (n : Nat) (L : List Nat), L.Nodup → (∀ i ∈ L, i < n) → L.length ≤ n
  | 0, L, _, h => by
    cases L with
    | nil => simp
    | cons x r => exact absurd (h x (by simp)) (Nat.not_lt_zero x)
  | n + 1, L, hn, h => by
    have h1 := nodup_len n (L.erase n) (hn.erase n) (fun i hi => by
      have hlt := h i (List.mem_of_mem_erase hi)
      have hne : i ≠ n := by
        rintro rfl
        exact (List.Nodup.not_mem_erase hn) hi
      omega)
    have h2 := List.length_erase (l := L) (a := n)
    split at h2 <;> omega
theorem nodup_all {n : Nat} {L : List Nat} (hn : L.Nodup) (h : ∀ i ∈ L, i < n) (hl : L.length = n) : ∀ j, j < n → j ∈ L := by
  intro j hj
  apply Classical.byContradiction
  intro hnot
  have := nodup_len n (j :: L) (List.nodup_cons.2 ⟨hnot, hn⟩) (fun i hi => by
    rcases List.mem_cons.1 hi with rfl | hi
    · exact hj
    · exact h i hi)
  simp at this
  omega

section
variable {G : Ctx} {Wr : Nat → Prop} {P : Program} {Gl : Fz → Prop} {call : CallF} {base nt : Nat} {kept : List Nat} {ops : Array Oper}

/-- A region that draws its order: what is known of it. -/
structure Drawn (G : Ctx) (call : CallF) (base nt : Nat) (kept : List Nat) (ops : Array Oper) (st st' : St) where
  fs : List Foot
  Ws : List (List (Nat × AV))
  bs : List Nat
  S : Nat → St
  O : Nat → Out
  t : Texts G call base nt kept ops.toList ops.toList st st' fs Ws S O
  hb : befores [] ops.toList = some bs
  ho : orderedFrom [] bs fs = true
  hv : viewsOK st.sl fs Ws bs fs = true

variable {st st' : St} (D : Drawn G call base nt kept ops st st')

def Drawn.Wt (t k : Nat) : Prop := ∃ f, D.fs[k]? = some f ∧ t ∈ f.ws
def Drawn.Wi (i k : Nat) : Prop := ∃ f, D.fs[k]? = some f ∧ i ∈ f.wi

theorem Drawn.get {k : Nat} (hk : k < ops.size) : ∃ o, ops[k]? = some o ∧ ops.toList[k]? = some o := by
  refine ⟨ops[k], by simp [hk], by simp [hk]⟩

theorem Drawn.frame {k : Nat} (hk : k < ops.size) : (∀ t, ¬ D.Wt t k → (D.S (k + 1)).slot t = (D.S k).slot t) ∧ (∀ i, ¬ D.Wi i k → (D.S (k + 1)).ent i = (D.S k).ent i) ∧ (D.S (k + 1)).lk = (D.S k).lk := by
  obtain ⟨o, h1, h2⟩ := Drawn.get hk
  obtain ⟨t1, t2, t3, t4⟩ := D.t.step k o h2
  obtain ⟨a1, a2, a3⟩ := foot_loc (base := base) (ops := ops.toList) (st := D.S k) (o := o) (out := D.O k) (D.S k) (agree_refl _ _ _) (fun t ht => foot_nv t ht)
  refine ⟨fun t ht => ?_, fun i hi => ?_, by rw [t2]; exact lk_put _ _ _⟩
  · rw [t2]; exact a2 t fun hm => ht ⟨_, t3, hm⟩
  · rw [t2]; exact a3 i fun hm => hi ⟨_, t3, hm⟩

theorem Drawn.lk {i : Nat} (hi : i ≤ ops.size) : (D.S i).lk = st.lk := by
  induction i with
  | zero => rw [D.t.first]
  | succ i ih => rw [(D.frame (k := i) (by omega)).2.2, ih (by omega)]

/-- Whom an operation waits for. -/
theorem Drawn.bits {k : Nat} {o : Oper} (hk : ops[k]? = some o) : ∃ b, D.bs[k]? = some b ∧ (∀ e ∈ o.after, Region.binds .any e = true → e.on < k) ∧
    ∀ j, b.testBit j = true → ∃ e ∈ o.after, Region.binds .any e = true ∧ (j = e.on ∨ ∃ b', D.bs[e.on]? = some b' ∧ b'.testBit j = true) := by
  obtain ⟨l, h1, h2, h3⟩ := befores_spec _ _ _ D.hb
  simp only [List.nil_append] at h1 h3
  rw [h1]
  obtain ⟨b, k1, k2⟩ := h3 k o (by simpa using hk)
  obtain ⟨m1, m2⟩ := bitsOf_spec k2
  have hkl : k < l.length := (List.getElem?_eq_some_iff.1 k1).1
  refine ⟨b, k1, fun e he hbe => ?_, fun j hj => ?_⟩
  · have := m1 e (by simpa using he) hbe
    simp at this; omega
  · obtain ⟨e, he, hbe, hq⟩ := m2 j hj
    refine ⟨e, by simpa using he, hbe, hq.imp _root_.id ?_⟩
    rintro ⟨b', hb', ht⟩
    rw [List.getElem?_take] at hb'
    split at hb'
    · exact ⟨b', hb', ht⟩
    · cases hb'

/-- Operations that have come, each behind those that it waits for. -/
structure Mid (L : List Nat) (s : St) : Prop where
  nodup : L.Nodup
  lt : ∀ i ∈ L, i < ops.size
  closed : ∀ i ∈ L, ∀ o, ops[i]? = some o → ∀ e ∈ o.after, Region.binds .any e = true → e.on ∈ L
  slot : ∀ t, Sel (D.Wt t) L (fun m => (D.S m).slot t) (s.slot t)
  ent : ∀ i, Sel (D.Wi i) L (fun m => (D.S m).ent i) (s.ent i)
  lk : s.lk = st.lk

/-- What it waits for, through others too, has come. -/
theorem Drawn.bits_in {L : List Nat} (hcl : ∀ i ∈ L, ∀ o, ops[i]? = some o → ∀ e ∈ o.after, Region.binds .any e = true → e.on ∈ L) : ∀ (k : Nat) o b, ops[k]? = some o → D.bs[k]? = some b → (∀ e ∈ o.after, Region.binds .any e = true → e.on ∈ L) → ∀ j, b.testBit j = true → j ∈ L := by
  intro k
  induction k using Nat.strongRecOn with
  | _ k ih =>
  intro o b ho hb he j hj
  obtain ⟨b', k1, k2, k3⟩ := D.bits ho
  rw [hb] at k1
  simp only [Option.some.injEq] at k1; subst k1
  obtain ⟨e, hem, hbe, hq⟩ := k3 j hj
  rcases hq with rfl | ⟨b2, hb2, ht⟩
  · exact he e hem hbe
  · have hlt := k2 e hem hbe
    have hel := he e hem hbe
    have hosz : e.on < ops.size := by have := (Array.getElem?_eq_some_iff.1 ho).1; omega
    obtain ⟨o2, h1, _⟩ := Drawn.get hosz
    exact ih e.on hlt o2 b2 h1 hb2 (hcl e.on hel o2 h1) j ht

/-- Of two operations: the one waits, or they are apart. -/
theorem Drawn.order {j k : Nat} {g f : Foot} (hjk : j < k) (hg : D.fs[j]? = some g) (hf : D.fs[k]? = some f) : (∃ b, D.bs[k]? = some b ∧ b.testBit j = true) ∨ Apart g f := by
  obtain ⟨b, k1, k2⟩ := orderedFrom_spec D.ho k f hf
  rcases k2 j g (by simpa using hg) (by simpa using hjk) with h | h
  · exact .inl ⟨b, k1, h⟩
  · exact .inr (Foot.apart_spec h)

/-- An operation that may come now: what it looks at, what it writes is as in the text; behind it all is as it should be. -/
theorem Drawn.next {L : List Nat} {s : St} (M : Mid D L s) {i : Nat} {o : Oper} (ho : ops[i]? = some o) (hi : i ∉ L) (he : ∀ e ∈ o.after, Region.binds .any e = true → e.on ∈ L) :
    (∀ t ∈ (footOf base ops.toList (D.S i) o (D.O i)).rs, s.slot t = (D.S i).slot t) ∧ (∀ j ∈ (footOf base ops.toList (D.S i) o (D.O i)).ri, s.ent j = (D.S i).ent j) ∧ Mid D (i :: L) (s.put o.dst (D.O i)) := by
  have hisz : i < ops.size := (Array.getElem?_eq_some_iff.1 ho).1
  have ho' : ops.toList[i]? = some o := by simpa using ho
  obtain ⟨t1, t2, t3, t4⟩ := D.t.step i o ho'
  obtain ⟨b, b1, b2, b3⟩ := D.bits ho
  have hbin := D.bits_in M.closed i o b ho b1 he
  generalize hfoot : footOf base ops.toList (D.S i) o (D.O i) = f at t3 t4 ⊢
  -- others that write what this one looks at or writes
  have after : ∀ m ∈ L, ∀ g, D.fs[m]? = some g → ¬ Apart f g → m < i := by
    intro m hm g hg hna
    rcases Nat.lt_or_ge m i with hlt | hge
    · exact hlt
    · have hne : i ≠ m := by rintro rfl; exact hi hm
      rcases D.order (j := i) (k := m) (by omega) t3 hg with ⟨bm, q1, q2⟩ | hap
      · exfalso
        have hmsz := M.lt m hm
        obtain ⟨om, h1, _⟩ := Drawn.get hmsz
        exact hi (D.bits_in M.closed m om bm h1 q1 (M.closed m hm om h1) i q2)
      · exact absurd hap hna
  have ahead : ∀ m, m < i → ∀ g, D.fs[m]? = some g → ¬ Apart g f → m ∈ L := by
    intro m hm g hg hna
    rcases D.order hm hg t3 with ⟨b', q1, q2⟩ | hap
    · rw [b1] at q1
      simp only [Option.some.injEq] at q1; subst q1
      exact hbin m q2
    · exact absurd hap hna
  have hslotA : ∀ t, (t ∈ f.rs ∨ t ∈ f.ws) → s.slot t = (D.S i).slot t := by
    intro t ht
    refine sel_agree (Wt := D.Wt t) (val := fun m => (D.S m).slot t) (i := i) (M.slot t) (sel_text (val := fun m => (D.S m).slot t) ops.size (fun k hk hw => (D.frame hk).1 t hw) i (by omega)) ?_ ?_
    · rintro m hm ⟨g, hg, htg⟩
      refine after m hm g hg fun hap => ?_
      rcases ht with ht | ht
      · exact hap.rw t ht htg
      · exact hap.ww t ht htg
    · rintro m hm ⟨g, hg, htg⟩
      refine ahead m hm g hg fun hap => ?_
      rcases ht with ht | ht
      · exact hap.wr t htg ht
      · exact hap.ww t htg ht
  have hentA : ∀ j, (j ∈ f.ri ∨ j ∈ f.wi) → s.ent j = (D.S i).ent j := by
    intro t ht
    refine sel_agree (Wt := D.Wi t) (val := fun m => (D.S m).ent t) (i := i) (M.ent t) (sel_text (val := fun m => (D.S m).ent t) ops.size (fun k hk hw => (D.frame hk).2.1 t hw) i (by omega)) ?_ ?_
    · rintro m hm ⟨g, hg, htg⟩
      refine after m hm g hg fun hap => ?_
      rcases ht with ht | ht
      · exact hap.irw t ht htg
      · exact hap.iww t ht htg
    · rintro m hm ⟨g, hg, htg⟩
      refine ahead m hm g hg fun hap => ?_
      rcases ht with ht | ht
      · exact hap.iwr t htg ht
      · exact hap.iww t htg ht
  have hlkA : s.lk = (D.S i).lk := by rw [M.lk, D.lk (by omega)]
  -- nothing else is ended
  have hnv : ∀ t, t ∉ f.ws → anyViews f.kl f.kids (s.slot t) = false := by
    intro t ht
    obtain ⟨v1, v2⟩ := viewsOK_spec D.hv i f b t3 b1
    cases hk : anyViews f.kl f.kids (s.slot t) with
    | false => rfl
    | true =>
      exfalso
      rcases M.slot t with ⟨m, m1, ⟨g, hg, htg⟩, m3, m4⟩ | ⟨m1, m2⟩
      · have hmsz := M.lt m m1
        obtain ⟨om, h1, h2⟩ := Drawn.get hmsz
        obtain ⟨_, _, u3, u4⟩ := D.t.step m om h2
        rw [hg] at u3
        simp only [Option.some.injEq] at u3; subst u3
        rw [m4] at hk
        rcases v2 m _ (by rw [D.t.len]; simpa using hmsz) u4 t _ (mem_slotsAt htg) hk with hq | ⟨k', g', q1, q2, q3, q4⟩
        · exact ht hq
        · have := m3 k' (hbin k' q4) ⟨g', q2, q3⟩
          omega
      · rw [m2] at hk
        simp only [D.t.first] at hk
        have hmem : (t, st.slot t) ∈ st.sl := by
          unfold St.slot at hk ⊢
          cases hf : find t st.sl with
          | none =>
            rw [hf] at hk
            rw [anyViews_iff] at hk
            rcases hk with ⟨o', _, hk⟩ | hk <;> cases hk
          | some v => exact find_mem hf
        rcases v1 t _ hmem hk with hq | ⟨k', g', q1, q2, q3⟩
        · exact ht hq
        · exact m1 k' (hbin k' q3) ⟨g', q1, q2⟩
  have hloc := foot_loc (base := base) (ops := ops.toList) (st := D.S i) (o := o) (out := D.O i)
  rw [hfoot] at hloc
  obtain ⟨⟨a1, a2, a3⟩, a4, a5⟩ := hloc s ⟨fun t ht => hslotA t (.inr ht), fun j hj => hentA j (.inr hj), hlkA⟩ hnv
  refine ⟨fun t ht => hslotA t (.inl ht), fun j hj => hentA j (.inl hj), ?_⟩
  refine { nodup := List.nodup_cons.2 ⟨hi, M.nodup⟩, lt := fun j hj => ?_, closed := fun j hj o' ho2 e hem hbe => ?_, slot := fun t => ?_, ent := fun j => ?_, lk := ?_ }
  · rcases List.mem_cons.1 hj with rfl | hj
    · exact hisz
    · exact M.lt j hj
  · rcases List.mem_cons.1 hj with rfl | hj
    · rw [ho] at ho2
      simp only [Option.some.injEq] at ho2; subst ho2
      exact List.mem_cons_of_mem _ (he e hem hbe)
    · exact List.mem_cons_of_mem _ (M.closed j hj o' ho2 e hem hbe)
  · by_cases ht : t ∈ f.ws
    · refine .inl ⟨i, by simp, ⟨f, t3, ht⟩, fun m hm hw => ?_, by show _ = (D.S (i + 1)).slot t; rw [t2]; exact a1 t ht⟩
      rcases List.mem_cons.1 hm with rfl | hm
      · exact Nat.le_refl _
      · obtain ⟨g, hg, htg⟩ := hw
        exact Nat.le_of_lt (after m hm g hg fun hap => hap.ww t ht htg)
    · rw [a4 t ht]
      rcases M.slot t with ⟨m, m1, m2, m3, m4⟩ | ⟨m1, m2⟩
      · refine .inl ⟨m, List.mem_cons_of_mem _ m1, m2, fun m' hm' hw => ?_, m4⟩
        rcases List.mem_cons.1 hm' with rfl | hm'
        · obtain ⟨g, hg, htg⟩ := hw
          rw [t3] at hg
          simp only [Option.some.injEq] at hg; subst hg
          exact absurd htg ht
        · exact m3 m' hm' hw
      · refine .inr ⟨fun m hm hw => ?_, m2⟩
        rcases List.mem_cons.1 hm with rfl | hm
        · obtain ⟨g, hg, htg⟩ := hw
          rw [t3] at hg
          simp only [Option.some.injEq] at hg; subst hg
          exact absurd htg ht
        · exact m1 m hm hw
  · by_cases ht : j ∈ f.wi
    · refine .inl ⟨i, by simp, ⟨f, t3, ht⟩, fun m hm hw => ?_, by show _ = (D.S (i + 1)).ent j; rw [t2]; exact a2 j ht⟩
      rcases List.mem_cons.1 hm with rfl | hm
      · exact Nat.le_refl _
      · obtain ⟨g, hg, htg⟩ := hw
        exact Nat.le_of_lt (after m hm g hg fun hap => hap.iww j ht htg)
    · rw [a5 j ht]
      rcases M.ent j with ⟨m, m1, m2, m3, m4⟩ | ⟨m1, m2⟩
      · refine .inl ⟨m, List.mem_cons_of_mem _ m1, m2, fun m' hm' hw => ?_, m4⟩
        rcases List.mem_cons.1 hm' with rfl | hm'
        · obtain ⟨g, hg, htg⟩ := hw
          rw [t3] at hg
          simp only [Option.some.injEq] at hg; subst hg
          exact absurd htg ht
        · exact m3 m' hm' hw
      · refine .inr ⟨fun m hm hw => ?_, m2⟩
        rcases List.mem_cons.1 hm with rfl | hm
        · obtain ⟨g, hg, htg⟩ := hw
          rw [t3] at hg
          simp only [Option.some.injEq] at hg; subst hg
          exact absurd htg ht
        · exact m1 m hm hw
  · rw [lk_put]; exact M.lk

/-- All have come: the state is the text's. -/
theorem Drawn.done {L : List Nat} {s : St} (M : Mid D L s) (hl : L.length = ops.size) : (∀ t, st'.slot t = s.slot t) ∧ (∀ j, st'.ent j = s.ent j) ∧ st'.lk = s.lk := by
  have hall := nodup_all M.nodup M.lt hl
  have hlast : D.S ops.size = st' := by have := D.t.last; simpa using this
  refine ⟨fun t => ?_, fun j => ?_, ?_⟩
  · have := sel_agree (Wt := D.Wt t) (val := fun m => (D.S m).slot t) (i := ops.size) (M.slot t) (sel_text (val := fun m => (D.S m).slot t) ops.size (fun k hk hw => (D.frame hk).1 t hw) ops.size (Nat.le_refl _)) (fun m hm _ => M.lt m hm) (fun m hm _ => hall m hm)
    rw [this, hlast]
  · have := sel_agree (Wt := D.Wi j) (val := fun m => (D.S m).ent j) (i := ops.size) (M.ent j) (sel_text (val := fun m => (D.S m).ent j) ops.size (fun k hk hw => (D.frame hk).2.1 j hw) ops.size (Nat.le_refl _)) (fun m hm _ => M.lt m hm) (fun m hm _ => hall m hm)
    rw [this, hlast]
  · rw [M.lk, ← hlast, D.lk (Nat.le_refl _)]

end
end Go.Abs
end

/-
  The interpreter's calls by rewriting, loops, a register of known calls, types as plain data; no condition.
-/
import Derived.ChangeSame
import Derived.ChangeOld
import Derived.RowKit
import Derived.Attr
import Derived.Test.YtjgfjfdodekkpaaGreatDoorAbs4
set_option linter.all false

section
namespace Go.Abs

/-! ## Data that is handed in, as deep data -/

/-- All memory as it stands. -/
def snap (w : World) : Fz :=
  { cell := fun b i => w.cell? ⟨b, i, none⟩, map := fun b => match w.heap[b]? with | some (.map es _) => some es | _ => none }
theorem snap_ok (w : World) : (snap w).ok w := by
  refine ⟨fun b i v h => h, fun b es h => ?_⟩
  simp only [snap] at h
  split at h
  · next es' c hb => cases h; exact ⟨c, hb⟩
  · cases h

def aggT (P : Program) (t : TypeId) : Bool := match P.underlying t with
  | some d => isAggT d
  | none => false
def joinD (agg : Bool) (ds : List DV) : DV := match agg, ds with
  | false, [d] => d
  | _, ds => .agg ds

/-- The fields fill the cells, one behind the other. -/
def contig (P : Program) : Nat → Nat → List Field → Bool
  | off, tot, [] => Nat.beq off tot
  | off, tot, f :: r => Nat.beq f.offset off && contig P (off + P.cellsOf f.type) tot r

/-- Plain data; the types that it is made of. -/
def plainT (P : Program) (S : List TypeId) (t : TypeId) : Bool := match P.underlying t with
  | some .bool | some (.int _) | some .string => true
  | some (.slice e) => has e S && Nat.blt 0 (P.cellsOf e) && (aggT P e || Nat.beq (P.cellsOf e) 1)
  | some (.struct fs) => contig P 0 (P.cellsOf t) fs.toList && fs.toList.all fun f => has f.type S
  | _ => false

/-- Of a type. -/
def Ty (P : Program) : Nat → TypeId → List DV → Prop
  | 0, _, _ => False
  | n + 1, t, ds => match P.underlying t with
    | some .bool => ∃ b, ds = [.bool b]
    | some (.int k) => ∃ i, ds = [.int k i] ∧ k.min ≤ i ∧ i ≤ k.max
    | some .string => ∃ s : ByteArray, ds = [.str s] ∧ s.size ≤ maxLen
    | some (.slice e) => ∃ xs : List (List DV), ds = [.lst (xs.map (joinD (aggT P e)))] ∧ xs.length ≤ maxLen ∧ ∀ x ∈ xs, x.length = P.cellsOf e ∧ Ty P n e x
    | some (.struct fs) => ds.length = P.cellsOf t ∧ ∀ f ∈ fs.toList, Ty P n f.type ((ds.drop f.offset).take (P.cellsOf f.type))
    | _ => False

theorem contig_le {P : Program} : ∀ {fs : List Field} {off tot : Nat}, contig P off tot fs = true → off ≤ tot ∧ ∀ f ∈ fs, off ≤ f.offset
  | [], off, tot, h => by
    have := Nat.eq_of_beq_eq_true h
    exact ⟨by omega, by simp⟩
  | f :: r, off, tot, h => by
    simp only [contig, Bool.and_eq_true] at h
    have h1 := Nat.eq_of_beq_eq_true h.1
    obtain ⟨h2, h3⟩ := contig_le h.2
    refine ⟨by omega, fun g hg => ?_⟩
    rcases List.mem_cons.1 hg with rfl | hg
    · omega
    · have := h3 g hg; omega

theorem repL_app {F : Fz} : ∀ {a : List DV} {x : List Value} {b : List DV} {y : List Value}, RepL F a x → RepL F b y → RepL F (a ++ b) (x ++ y)
  | [], x, b, y, h, k => by simp only [RepL] at h; subst h; simpa using k
  | d :: a, x, b, y, h, k => by
    simp only [RepL] at h
    obtain ⟨v, l, rfl, h1, h2⟩ := h
    simp only [List.cons_append, RepL]
    exact ⟨v, l ++ y, rfl, h1, repL_app h2 k⟩

section
variable {H : Type} {enc : TypeId × Value → H} {P : Program} {w : World} {spare : Nat → Bool} {held : Bool}

theorem fields_rep {n : Nat} {tot : Nat} {cs : List Value} (hl : cs.length = tot) {F : Fz}
    : ∀ {fs : List Field} {off : Nat} {xs : List (DataW H × List MemPlace)}, contig P off tot fs = true →
    fs.mapM (fun f => DataW.trod enc P w 0 spare held n f.type ((cs.drop f.offset).take (P.cellsOf f.type))) = some xs →
    (∀ f ∈ fs, ∀ cs' x, DataW.trod enc P w 0 spare held n f.type cs' = some x → ∃ ds, RepL F ds cs' ∧ Ty P n f.type ds) →
    ∃ ds, RepL F ds (cs.drop off) ∧ ∀ f ∈ fs, Ty P n f.type ((ds.drop (f.offset - off)).take (P.cellsOf f.type))
  | [], off, xs, hc, hm, ih => by
    have := Nat.eq_of_beq_eq_true hc
    refine ⟨[], ?_, by simp⟩
    rw [List.drop_eq_nil_of_le (by omega)]
    simp [RepL]
  | f :: r, off, xs, hc, hm, ih => by
    simp only [contig, Bool.and_eq_true] at hc
    have h1 := Nat.eq_of_beq_eq_true hc.1
    obtain ⟨h2, h3⟩ := contig_le hc.2
    rw [List.mapM_cons] at hm
    cases hf : DataW.trod enc P w 0 spare held n f.type ((cs.drop f.offset).take (P.cellsOf f.type)) with
    | none => simp [hf] at hm
    | some x0 =>
      cases hr : r.mapM (fun f => DataW.trod enc P w 0 spare held n f.type ((cs.drop f.offset).take (P.cellsOf f.type))) with
      | none => simp [hf, hr] at hm
      | some xr =>
        obtain ⟨d1, e1, t1⟩ := ih f (by simp) _ _ hf
        obtain ⟨d2, e2, t2⟩ := fields_rep hl hc.2 hr (fun g hg => ih g (by simp [hg]))
        have l1 : d1.length = P.cellsOf f.type := by
          have := ((RepL_iff _ _).1 e1).1
          simp at this; omega
        refine ⟨d1 ++ d2, ?_, ?_⟩
        · have e : cs.drop off = (cs.drop f.offset).take (P.cellsOf f.type) ++ cs.drop (off + P.cellsOf f.type) := by
            rw [h1, ← List.drop_drop, List.take_append_drop]
          rw [e]; exact repL_app e1 e2
        · intro g hg
          rcases List.mem_cons.1 hg with rfl | hg
          · rw [h1, Nat.sub_self, List.drop_zero, ← l1, List.take_left]; exact t1
          · have h4 := h3 g hg
            have : d1.length ≤ g.offset - off := by omega
            rw [List.drop_append, List.drop_eq_nil_of_le this, List.nil_append, show g.offset - off - d1.length = g.offset - (off + P.cellsOf f.type) by omega]
            exact t2 g hg

theorem ty_atom {n : Nat} {e : TypeId} {d : DV} (h : Ty P n e [d]) (ha : aggT P e = false) : d.cells = [d] := by
  cases n with
  | zero => exact h.elim
  | succ n =>
    simp only [Ty] at h
    simp only [aggT] at ha
    split at h
    · obtain ⟨b, hb⟩ := h; simp at hb; subst hb; rfl
    · obtain ⟨b, hb, _⟩ := h; simp at hb; subst hb; rfl
    · obtain ⟨b, hb, _⟩ := h; simp at hb; subst hb; rfl
    · obtain ⟨b, hb, _⟩ := h; simp at hb; subst hb; rfl
    · next hu => rw [hu] at ha; simp [isAggT] at ha
    · exact h.elim

theorem joinD_cells {n : Nat} {e : TypeId} {x : List DV} (h : Ty P n e x) (hl : x.length = P.cellsOf e) (ha : (aggT P e || Nat.beq (P.cellsOf e) 1) = true) : (joinD (aggT P e) x).cells = x := by
  cases hg : aggT P e with
  | true => simp [joinD, DV.cells]
  | false =>
    rw [hg] at ha
    simp only [Bool.false_or] at ha
    have := Nat.eq_of_beq_eq_true ha
    rw [this] at hl
    match x, hl with
    | [d], _ => exact ty_atom h hg

theorem slice_rep {n : Nat} {e : TypeId} {a : Addr} {k : Nat} (hk : P.cellsOf e = k) (hpos : 0 < k) (ha : (aggT P e || Nat.beq (P.cellsOf e) 1) = true)
    (ih : ∀ cs' x, DataW.trod enc P w 0 spare held n e cs' = some x → ∃ ds, RepL (snap w) ds cs' ∧ Ty P n e ds) :
    ∀ {len i : Nat} {xs : List (DataW H × List MemPlace)}, (List.range' i len).mapM (fun i => (w.cells? 0 (a.add (i * P.cellsOf e)) (P.cellsOf e)).bind (DataW.trod enc P w 0 spare held n e)) = some xs →
    ∃ ds : List (List DV), ds.length = len ∧ (∀ x ∈ ds, x.length = P.cellsOf e ∧ Ty P n e x) ∧ RepElems (snap w) (ds.map (joinD (aggT P e))) a.block (a.off + i * k) k
  | 0, i, xs, h => ⟨[], rfl, by simp, by simp [RepElems]⟩
  | len + 1, i, xs, h => by
    rw [List.range'_succ, List.mapM_cons] at h
    cases h1 : (w.cells? 0 (a.add (i * P.cellsOf e)) (P.cellsOf e)).bind (DataW.trod enc P w 0 spare held n e) with
    | none => simp [h1] at h
    | some x0 =>
      cases h2 : (List.range' (i + 1) len).mapM (fun i => (w.cells? 0 (a.add (i * P.cellsOf e)) (P.cellsOf e)).bind (DataW.trod enc P w 0 spare held n e)) with
      | none => simp [h1, h2] at h
      | some xr =>
        obtain ⟨ds, l, t, r⟩ := slice_rep hk hpos ha ih h2
        obtain ⟨cs, hc, ht⟩ := Option.bind_eq_some_iff.1 h1
        obtain ⟨d, hd, hty⟩ := ih _ _ ht
        obtain ⟨_, hcl, hcg⟩ := World.cells?_some hc
        have hdl := ((RepL_iff _ _).1 hd).1
        have hdl' : d.length = P.cellsOf e := by omega
        refine ⟨d :: ds, by simp [l], fun x hx => ?_, ?_⟩
        · rcases List.mem_cons.1 hx with rfl | hx
          · exact ⟨hdl', hty⟩
          · exact t x hx
        · rw [List.map_cons, RepElems_cons, joinD_cells hty hdl' ha]
          refine ⟨fun j dv hj => ?_, by rw [Nat.add_assoc, ← Nat.succ_mul]; exact r⟩
          obtain ⟨v, hv, hrep⟩ := ((RepL_iff _ _).1 hd).2 j dv hj
          simp only at hv
          refine ⟨v, ?_, hrep⟩
          have hj' : j < P.cellsOf e := by
            have := (List.getElem?_eq_some_iff.1 hj).1
            omega
          have := hcg j hj'
          rw [hv] at this
          simp only [snap]
          have hs : ((a.add (i * P.cellsOf e)).add j) = ⟨a.block, a.off + i * k + j, ((a.add (i * P.cellsOf e)).add j).spot⟩ := by
            simp only [Addr.add]
            split <;> split <;> simp_all <;> omega
          have hsp : ((a.add (i * P.cellsOf e)).add j).spot = none := by
            unfold World.cell? at this
            split at this
            · cases hh : ((a.add (i * P.cellsOf e)).add j).spot with
              | none => rfl
              | some q => simp [hh] at this
            · cases this
          rw [hs, hsp] at this
          exact this

theorem trod_rep {S : List TypeId} (hS : ∀ t, has t S = true → plainT P S t = true) : ∀ (n : Nat) (t : TypeId) (cs : List Value) (x : DataW H × List MemPlace), has t S = true → DataW.trod enc P w 0 spare held n t cs = some x →
    ∃ ds, RepL (snap w) ds cs ∧ Ty P n t ds := by
  intro n
  induction n with
  | zero => intro t cs x _ h; simp [DataW.trod] at h
  | succ n ih =>
    intro t cs x ht h
    have hp := hS t ht
    unfold plainT at hp
    unfold DataW.trod at h
    simp only [Ty]
    cases hu : P.underlying t with
    | none => rw [hu] at hp; cases hp
    | some u =>
      rw [hu] at hp h
      cases u with
      | bool =>
        simp only at h
        split at h
        any_goals (first | (exfalso; simp_all; done) | skip)
        · rename_i b _; exact ⟨[.bool b], by simp [RepL, Rep], b, rfl⟩
      | int k =>
        simp only at h
        split at h
        any_goals (first | (exfalso; simp_all; done) | skip)
        split at h
        · rename_i k' m heq hw
          cases heq
          obtain ⟨rfl, hw⟩ := hw
          simp only [Lit.wf, Bool.and_eq_true, decide_eq_true_eq] at hw
          exact ⟨[.int k' m], by simp [RepL, Rep], m, rfl, hw.1, hw.2⟩
        · cases h
      | string =>
        simp only at h
        split at h
        any_goals (first | (exfalso; simp_all; done) | skip)
        split at h
        · rename_i s _ hw; exact ⟨[.str s], by simp [RepL, Rep], s, rfl, hw⟩
        · cases h
      | slice e =>
        simp only [Bool.and_eq_true] at hp
        obtain ⟨⟨h1, h2⟩, h3⟩ := hp
        have h2' : 0 < P.cellsOf e := by
          simp only [Nat.blt] at h2
          have := (@Nat.ble_eq 1 (P.cellsOf e)).mp h2
          omega
        simp only at h
        split at h
        any_goals (first | (exfalso; simp_all; done) | skip)
        · exact ⟨[.lst []], by simp [RepL, Rep], [], by simp⟩
        · rename_i e' a len cap heq
          cases heq
          split at h
          · next hb =>
            obtain ⟨elems, he, hrest⟩ := Option.bind_eq_some_iff.1 h
            rw [List.range_eq_range'] at he
            obtain ⟨ds, hl, hty, hr⟩ := slice_rep rfl h2' h3 (fun cs' x hx => ih e cs' x h1 hx) he
            refine ⟨[.lst (ds.map (joinD (aggT P e)))], ?_, ds, rfl, by omega, hty⟩
            simp only [RepL, Rep, List.length_map, hl]
            refine ⟨_, [], rfl, ⟨_, cap, rfl, hb.2.1, ?_⟩, rfl⟩
            cases ds with
            | nil => exact .inl rfl
            | cons d0 dr =>
              refine .inr ⟨a.block, a.off, P.cellsOf e, ?_, ?_, by simpa using hr⟩
              · -- the address bears no spot
                rw [← hl, List.length_cons, List.range'_succ, List.mapM_cons] at he
                cases hz : (w.cells? 0 (a.add (0 * P.cellsOf e)) (P.cellsOf e)).bind (DataW.trod enc P w 0 spare held n e) with
                | none => rw [hz] at he; simp at he
                | some x0 =>
                  obtain ⟨cs, hc, _⟩ := Option.bind_eq_some_iff.1 hz
                  obtain ⟨_, hcl, hcg⟩ := World.cells?_some hc
                  have h0 := hcg 0 h2'
                  simp only [Nat.zero_mul, Addr.add, if_true] at h0
                  have hlen : 0 < cs.length := by omega
                  rw [List.getElem?_eq_getElem hlen] at h0
                  unfold World.cell? at h0
                  split at h0
                  · cases hh : a.spot with
                    | none => cases a; simp_all
                    | some q => simp [hh] at h0
                  · cases h0
              · intro x hx
                obtain ⟨y, hy, rfl⟩ := List.mem_map.1 hx
                obtain ⟨hyl, hyt⟩ := hty y hy
                rw [joinD_cells hyt hyl h3, hyl]
          · cases h
      | struct fs =>
        simp only [Bool.and_eq_true] at hp
        simp only at h
        split at h
        · next hl =>
          obtain ⟨xs, hm, _⟩ := Option.map_eq_some_iff.1 h
          obtain ⟨ds, hr, hty⟩ := fields_rep hl hp.1 hm (fun f hf cs' x hx => ih f.type cs' x (by
            have := List.all_eq_true.1 hp.2 f hf
            exact this) hx)
          rw [List.drop_zero] at hr
          refine ⟨ds, hr, ?_, fun f hf => by simpa using hty f hf⟩
          rw [← hl]; exact ((RepL_iff _ _).1 hr).1.symm
        · cases h
      | _ => simp at hp
end
end Go.Abs
end

section
namespace Go.Abs
open Go.ChangeShapes Go.WideShapes Go.RowKit

theorem mapM_imp {α β : Type} {f g : α → Option β} : ∀ {l : List α} {r : List β}, (∀ x ∈ l, ∀ y, f x = some y → g x = some y) → l.mapM f = some r → l.mapM g = some r
  | [], r, _, h => by simpa using h
  | x :: l, r, hi, h => by
    rw [List.mapM_cons] at h ⊢
    cases hf : f x with
    | none => simp [hf] at h
    | some y =>
      cases hl : l.mapM f with
      | none => simp [hf, hl] at h
      | some q =>
        rw [hi x (by simp) y hf, mapM_imp (fun z hz => hi z (by simp [hz])) hl]
        simpa [hf, hl] using h

section
variable {H : Type} {enc : TypeId × Value → H} {P : Program} {w w' : World} {held : Bool}

theorem cell?_kept (h : ∀ i, i < w.heap.size → w'.heap[i]? = w.heap[i]?) {a : Addr} {v : Value} (hv : w.cell? a = some v) : w'.cell? a = some v := by
  have hb := World.block_lt_of_cell? w a hv
  unfold World.cell? at hv ⊢
  rw [h _ hb]; exact hv

theorem cells?_kept (h : ∀ i, i < w.heap.size → w'.heap[i]? = w.heap[i]?) {a : Addr} {n : Nat} {cs : List Value} (hv : w.cells? 0 a n = some cs) : w'.cells? 0 a n = some cs := by
  unfold World.cells? at hv ⊢
  rw [if_pos (by omega)] at hv ⊢
  exact mapM_imp (fun i _ y hy => cell?_kept h hy) hv

theorem trod_kept {S : List TypeId} (hS : ∀ t, has t S = true → plainT P S t = true) (h : ∀ i, i < w.heap.size → w'.heap[i]? = w.heap[i]?) :
    ∀ (n : Nat) (t : TypeId) (cs : List Value) (x : DataW H × List MemPlace), has t S = true → DataW.trod enc P w 0 (fun _ => true) held n t cs = some x →
    DataW.trod enc P w' 0 (fun b => decide (b < w.heap.size)) held n t cs = some x := by
  intro n
  induction n with
  | zero => intro t cs x _ hx; simp [DataW.trod] at hx
  | succ n ih =>
    intro t cs x ht hx
    have hp := hS t ht
    unfold plainT at hp
    unfold DataW.trod at hx ⊢
    cases hu : P.underlying t with
    | none => rw [hu] at hp; cases hp
    | some u =>
      rw [hu] at hp hx
      cases u with
      | bool =>
        simp only at hx ⊢
        split at hx
        any_goals (first | (exfalso; simp_all; done) | skip)
        all_goals exact hx
      | int k =>
        simp only at hx ⊢
        split at hx
        any_goals (first | (exfalso; simp_all; done) | skip)
        all_goals exact hx
      | string =>
        simp only at hx ⊢
        split at hx
        any_goals (first | (exfalso; simp_all; done) | skip)
        all_goals exact hx
      | slice e =>
        simp only [Bool.and_eq_true] at hp
        obtain ⟨⟨h1, h2⟩, h3⟩ := hp
        have h2' : 0 < P.cellsOf e := by
          simp only [Nat.blt] at h2
          have := (@Nat.ble_eq 1 (P.cellsOf e)).mp h2
          omega
        simp only at hx ⊢
        split at hx
        any_goals (first | (exfalso; simp_all; done) | skip)
        · exact hx
        · rename_i e' a len cap heq
          cases heq
          have imp : ∀ (l : List Nat) (r : List (DataW H × List MemPlace)) (f : Nat → Nat), l.mapM (fun i => (w.cells? 0 (a.add (f i * P.cellsOf e)) (P.cellsOf e)).bind (DataW.trod enc P w 0 (fun _ => true) held n e)) = some r →
              l.mapM (fun i => (w'.cells? 0 (a.add (f i * P.cellsOf e)) (P.cellsOf e)).bind (DataW.trod enc P w' 0 (fun b => decide (b < w.heap.size)) held n e)) = some r := by
            intro l r f hm
            refine mapM_imp (fun i _ y hy => ?_) hm
            obtain ⟨cs', hc, ht'⟩ := Option.bind_eq_some_iff.1 hy
            rw [cells?_kept h hc]
            exact ih e cs' y h1 ht'
          split at hx
          · next hb =>
            rw [if_pos hb]
            obtain ⟨elems, he, hr⟩ := Option.bind_eq_some_iff.1 hx
            obtain ⟨rest, hr1, hr2⟩ := Option.map_eq_some_iff.1 hr
            rw [if_pos trivial] at hr1
            rw [imp _ _ (fun i => i) he]
            simp only [Option.bind_some]
            by_cases hlt : a.block < w.heap.size
            · rw [if_pos (by simpa using hlt), imp _ _ (fun j => len + j) hr1]
              simpa using hr2
            · rw [if_neg (by simpa using hlt)]
              have : rest = [] := by
                cases hcl : cap - len with
                | zero => rw [hcl] at hr1; simpa using hr1.symm
                | succ m =>
                  rw [hcl, List.range_succ_eq_map, List.mapM_cons] at hr1
                  cases hz : (w.cells? 0 (a.add ((len + 0) * P.cellsOf e)) (P.cellsOf e)).bind (DataW.trod enc P w 0 (fun _ => true) held n e) with
                  | none => rw [hz] at hr1; simp at hr1
                  | some y =>
                    obtain ⟨cs', hc, _⟩ := Option.bind_eq_some_iff.1 hz
                    have := World.cells?_block hc h2'
                    have hbl : (a.add ((len + 0) * P.cellsOf e)).block = a.block := by
                      unfold Addr.add; split <;> rfl
                    omega
              subst this
              simpa using hr2
          · cases hx
      | struct fs =>
        simp only [Bool.and_eq_true] at hp
        simp only at hx ⊢
        split at hx
        · next hl =>
          rw [if_pos hl]
          obtain ⟨xs, hm, hx'⟩ := Option.map_eq_some_iff.1 hx
          rw [mapM_imp (fun f hf y hy => ih f.type _ y (List.all_eq_true.1 hp.2 f hf) hy) hm]
          simpa using hx'
        · cases hx
      | _ => simp at hp

theorem trodAll_kept {S : List TypeId} (hS : ∀ t, has t S = true → plainT P S t = true) (h : ∀ i, i < w.heap.size → w'.heap[i]? = w.heap[i]?) :
    ∀ {ts : List TypeId} {vs : List Value} {ds : List (DataW H)} {ps : List MemPlace}, (∀ t ∈ ts, has t S = true) → DataW.TrodAll enc P w 0 (fun _ => true) held ts vs ds ps →
    DataW.TrodAll enc P w' 0 (fun b => decide (b < w.heap.size)) held ts vs ds ps
  | [], _, _, _, _, ht => by
    obtain ⟨rfl, rfl, rfl⟩ := trodAll_nil ht
    exact rfl
  | t :: ts, _, _, _, hs, ht => by
    obtain ⟨v, vs, d, ds, p, q, rfl, rfl, rfl, ⟨n, h1⟩, h2⟩ := trodAll_cons ht
    exact ⟨p, q, ⟨n, trod_kept hS h n t _ _ (hs t (by simp)) h1⟩, trodAll_kept hS h (fun t' ht' => hs t' (by simp [ht'])) h2, rfl⟩

/-- A value of a type, as deep data. -/
def TyV (P : Program) (t : TypeId) (d : DV) : Prop := ∃ n ds, Ty P n t ds ∧ d = joinD (aggT P t) ds ∧ (aggT P t = false → ∃ x, ds = [x])

theorem repV_of_trod {S : List TypeId} (hS : ∀ t, has t S = true → plainT P S t = true) {t : TypeId} (ht : has t S = true) {v : Value} {d : DataW H} {ps : List MemPlace} {r : Reach} {b0 : Nat} {W : World}
    (hval : Value.okWide P W r b0 t v) (h : DataW.Trod enc P w 0 (fun _ => true) held t v d ps) : ∃ dv, Rep (snap w) dv v ∧ TyV P t dv := by
  obtain ⟨n, hn⟩ := h
  obtain ⟨ds, hr, hty⟩ := trod_rep hS n t _ _ ht hn
  have hp := hS t ht
  unfold plainT at hp
  unfold Value.okWide at hval
  cases n with
  | zero => exact hty.elim
  | succ n =>
    have hty' := hty
    simp only [Ty] at hty
    cases hu : P.underlying t with
    | none => rw [hu] at hp; cases hp
    | some u =>
      rw [hu] at hp hty hval
      have single : ∀ x, ds = [x] → aggT P t = false → (∀ us, v ≠ .agg us) → ∃ dv, Rep (snap w) dv v ∧ TyV P t dv := by
        intro x hx ha hv
        subst hx
        refine ⟨x, ?_, n + 1, [x], hty', by rw [ha]; rfl, fun _ => ⟨x, rfl⟩⟩
        have : v.cells.toList = [v] := by cases v <;> first | rfl | exact (hv _ rfl).elim
        rw [this] at hr
        simp only [RepL] at hr
        obtain ⟨v', l', e, hrep, rfl⟩ := hr
        simp at e; subst e; exact hrep
      have notAgg : ∀ us, v = .agg us → Cell.okWide P W r b0 t v → u = .bool ∨ u = .string ∨ (∃ k, u = .int k) ∨ (∃ e, u = .slice e) → False := by
        intro us hv hc hcase
        subst hv
        unfold Cell.okWide at hc
        rw [hu] at hc
        rcases hcase with rfl | rfl | ⟨k, rfl⟩ | ⟨e, rfl⟩ <;> simp [Cell.ok, hu] at hc
      cases u with
      | bool =>
        obtain ⟨b, hb⟩ := hty
        exact single _ hb (by simp [aggT, hu, isAggT]) (fun us hv => notAgg us hv hval (by simp))
      | int k =>
        obtain ⟨b, hb, _⟩ := hty
        exact single _ hb (by simp [aggT, hu, isAggT]) (fun us hv => notAgg us hv hval (by simp))
      | string =>
        obtain ⟨b, hb, _⟩ := hty
        exact single _ hb (by simp [aggT, hu, isAggT]) (fun us hv => notAgg us hv hval (by simp))
      | slice e =>
        obtain ⟨b, hb, _⟩ := hty
        exact single _ hb (by simp [aggT, hu, isAggT]) (fun us hv => notAgg us hv hval (by simp))
      | struct fs =>
        obtain ⟨us, rfl, _⟩ := hval
        refine ⟨.agg ds, ⟨us, rfl, hr⟩, n + 1, ds, hty', by simp [aggT, hu, isAggT, joinD], fun ha => by simp [aggT, hu, isAggT] at ha⟩
      | _ => simp at hp

/-- Values of types, one by one. -/
def TyVs (P : Program) : List TypeId → List DV → Prop
  | [], l => l = []
  | t :: ts, l => ∃ d r, l = d :: r ∧ TyV P t d ∧ TyVs P ts r

theorem repVs_of_trod {S : List TypeId} (hS : ∀ t, has t S = true → plainT P S t = true) {r : Reach} {b0 : Nat} {W : World} :
    ∀ {ts : List TypeId} {vs : List Value} {ds : List (DataW H)} {ps : List MemPlace}, (∀ t ∈ ts, has t S = true) →
    (∀ (j : Nat) t v, ts[j]? = some t → vs[j]? = some v → Value.okWide P W r b0 t v) → DataW.TrodAll enc P w 0 (fun _ => true) held ts vs ds ps → ∃ dvs, RepL (snap w) dvs vs ∧ TyVs P ts dvs ∧ ds.length = ts.length
  | [], _, _, _, _, _, ht => by
    obtain ⟨rfl, rfl, rfl⟩ := trodAll_nil ht
    exact ⟨[], by simp [RepL], by simp [TyVs], rfl⟩
  | t :: ts, _, _, _, hs, hv, ht => by
    obtain ⟨v, vs, d, ds, p, q, rfl, rfl, rfl, h1, h2⟩ := trodAll_cons ht
    obtain ⟨dv, hr, hty⟩ := repV_of_trod hS (hs t (by simp)) (hv 0 t v rfl rfl) h1
    obtain ⟨dvs, hrs, htys, hl⟩ := repVs_of_trod hS (fun t' ht' => hs t' (by simp [ht'])) (fun j t' v' e1 e2 => hv (j + 1) t' v' (by simpa using e1) (by simpa using e2)) h2
    exact ⟨dv :: dvs, by simp only [RepL]; exact ⟨v, vs, rfl, hr, hrs⟩, ⟨dv, dvs, rfl, hty, htys⟩, by simp [hl]⟩

/-- A law: one answer, true; what is handed in reads as it did. -/
theorem law_calls {G : Ctx} {Gl : Fz → Prop} {f : FuncId} {fn : Func} {s : ChangeSpec} {S : List TypeId} (hS : ∀ t, has t S = true → plainT P S t = true) (hts : ∀ t ∈ fn.params.toList, has t S = true)
    {tb : TypeId} (hres : fn.resultTypes = #[tb]) (hb : P.underlying tb = some .bool) (hvars : s.vars = [])
    (hspec : ∀ ds : List (DataW H), ds.length = fn.params.toList.length → s.fn H (ds ++ []) = { results := [.lit (.bool true)], args := ds })
    (main : ∀ dvs, TyVs P fn.params.toList dvs → ∃ call tb, CallsOK G P Gl call ∧ call f (dvs.map .dv) [] [] 0 = some (.dv (.bool true), tb))
    {W : World} {args : Array Value} {base : Nat} {ds gs : List (DataW H)} {before : List MemPlace} {apart : Bool}
    (hval : ∀ (j : Nat) t v, fn.params[j]? = some t → args[j]? = some v → Value.okWide P W .any base t v)
    (hW : DataW.Whole enc P fn.params.toList s.vars apart W args.toList ds gs before) (hg : Gl (snap W)) :
    Calls P f args W fun e W' => ∃ v, e = .returned v ∧ s.post enc P fn apart true false false W args v W' := by
  have hW' := hW
  obtain ⟨p, q, hA, hV, rfl, hfz, hnd⟩ := hW
  rw [hvars] at hV
  obtain ⟨rfl, rfl⟩ : gs = [] ∧ q = [] := by
    cases gs with
    | nil => exact ⟨rfl, hV⟩
    | cons g r => exact absurd hV (by intro h; cases h)
  obtain ⟨dvs, hr, hty, hl⟩ := repVs_of_trod hS hts (fun j t v e1 e2 => hval j t v (by simpa using e1) (by simpa using e2)) hA
  obtain ⟨call, tb', hok, hcall⟩ := main dvs hty
  refine (call_deep hok hcall (snap_ok W) hg hr).mono ?_
  rintro e W' ⟨v, rfl, g', hc, _, hrep⟩
  simp only [Rep] at hrep
  subst hrep
  refine ⟨_, rfl, ds, [], _, [], p, [], hW', ?_, ?_, ?_, chg_keptBut hc _, fun h => by cases h⟩
  · rw [hspec ds hl, hres]; exact trodAll_mk1 (shut_bool hb true)
  · rw [hspec ds hl]; exact trodAll_kept hS (fun i hi => hc.old i hi) hts hA
  · rw [hspec ds hl, hvars]; exact rfl
end
end Go.Abs
end

section
namespace Go.Abs

/-! ## What is known of functions: answers, whatever the input -/

/-- It answers f so, whatever the input. -/
def Knows (call : CallF) (f : FuncId) {α : Type} (A : α → List AV) (r : α → AV) : Prop := ∀ a, call f (A a) [] [] 0 = some (r a, [])

open Classical in
/-- What is known of one function. -/
noncomputable def specO {α : Type} (f : FuncId) (A : α → List AV) (r : α → AV) : CallF := fun f' as tb lk base =>
  if h : f' = f ∧ tb = [] ∧ lk = [] ∧ base = 0 ∧ ∃ a, A a = as then some (r h.2.2.2.2.choose, []) else none

section
variable {G : Ctx} {P : Program} {Gl : Fz → Prop} {α : Type} {f : FuncId} {A : α → List AV} {r : α → AV}

theorem specO_knows (hr : ∀ a b, A a = A b → r a = r b) : Knows (specO f A r) f A r := by
  intro a
  unfold specO
  have h : f = f ∧ ([] : List (Nat × Ent)) = [] ∧ ([] : List Nat) = [] ∧ (0 : Nat) = 0 ∧ ∃ b, A b = A a := ⟨rfl, rfl, rfl, rfl, a, rfl⟩
  rw [dif_pos h, hr _ a h.2.2.2.2.choose_spec]
theorem specO_ne {f' : FuncId} (h : f' ≠ f) (as tb lk base) : specO f A r f' as tb lk base = none := by
  unfold specO; rw [dif_neg]; rintro ⟨h1, _⟩; exact h h1
theorem specO_ok (h : ∀ a, ∃ c, CallsOK G P Gl c ∧ c f (A a) [] [] 0 = some (r a, [])) : CallsOK G P Gl (specO f A r) := by
  intro f' args tb lk base r' tb' hk
  unfold specO at hk
  split at hk
  · rename_i hc
    obtain ⟨c, h1, h2⟩ := h hc.2.2.2.2.choose
    have e := hc.2.2.2.2.choose_spec
    simp only [Option.some.injEq, Prod.mk.injEq] at hk
    obtain ⟨e1, e2⟩ := hk
    rw [e] at h2
    obtain ⟨q1, q2, q3, q4, _⟩ := hc
    subst q1 q2 q3 q4 e1 e2
    exact h1 _ _ _ _ _ _ _ h2
  · cases hk

theorem knows_left {O c : CallF} (h : Knows O f A r) : Knows (orElse O c) f A r := by
  intro a; simp only [orElse, h a]
theorem knows_right {O c : CallF} (hn : ∀ as tb lk base, O f as tb lk base = none) (h : Knows c f A r) : Knows (orElse O c) f A r := by
  intro a; simp only [orElse, hn, h a]
theorem knows_spec_right {β : Type} {f' : FuncId} {B : β → List AV} {q : β → AV} {c : CallF} (hne : f ≠ f') (h : Knows c f A r) : Knows (orElse (specO f' B q) c) f A r :=
  knows_right (fun _ _ _ _ => specO_ne hne _ _ _ _) h

/-- One function more. -/
theorem spec_step (pr : Prims G P Gl) (tie : Ties G P) {call : CallF} (hc : CallsOK G P Gl call) (h : ∀ a, ∃ k, callStep G k call f (A a) [] [] 0 = some (r a, [])) : CallsOK G P Gl (orElse (specO f A r) call) :=
  orElse_ok (specO_ok fun a => let ⟨k, hk⟩ := h a; ⟨callStep G k call, step_ok pr tie k hc, hk⟩) hc
end

/-! ## Loops -/

theorem loopN_run {body : St → Option (EX × St)} {S : Nat → St} {j k : Nat} {e : EX} {st0 st : St} (h0 : st0 = S 0) (hj : j < k) (h : ∀ i, i < j → body (S i) = some (.norm, S (i + 1))) (he : body (S j) = some (e, st)) (hne : e ≠ .norm) :
    loopN body k st0 = some (e, st) := by
  subst h0
  have main : ∀ n i, n + i = j → ∀ k, n < k → loopN body k (S i) = some (e, st) := by
    intro n
    induction n with
    | zero =>
      intro i hi k hk
      have : i = j := by omega
      subst this
      cases k with
      | zero => omega
      | succ k =>
        simp only [loopN, he]
        try (cases e <;> first | rfl | exact (hne rfl).elim)
    | succ n ih =>
      intro i hi k hk
      cases k with
      | zero => omega
      | succ k =>
        simp only [loopN, h i (by omega)]
        exact ih (i + 1) (by omega) k (by omega)
  exact main j 0 (by omega) k hj

/-! ## Numbers -/

theorem beqE (a b : Nat) : Nat.beq a b = decide (a = b) := beq_dec a b
theorem bleE (a b : Nat) : Nat.ble a b = decide (a ≤ b) := ble_dec a b
theorem bltE (a b : Nat) : Nat.blt a b = decide (a < b) := blt_dec a b
theorem intLeE (a b : Int) : intLe a b = decide (a ≤ b) := intLe_iff
theorem intEqE (a b : Int) : intEq a b = decide (a = b) := by
  cases a <;> cases b <;> simp [intEq, beqE] <;> omega
theorem eqBE (x y : ByteArray) : eqB x y = decide (x = y) := by
  cases h : eqB x y
  · have := mt (eqB_iff (x := x) (y := y)).2 (by simp [h]); simp [this]
  · have := (eqB_iff (x := x) (y := y)).1 h; simp [this]
theorem natOfE (n : Nat) : natOf (n : Int) = some n := rfl
theorem natOf0 : natOf 0 = some 0 := rfl
theorem wrapE {n : Int} (h1 : -9223372036854775808 ≤ n) (h2 : n ≤ 9223372036854775807) : wrapI .i64 n = n := by
  unfold wrapI
  simp only [intLeE, kindLo, kindHi, h1, h2, decide_true, Bool.and_self, cond_true]
theorem wrapS {i n : Nat} (h : i < n) (hn : n ≤ maxLen) : wrapI .i64 ((i : Int) + 1) = ((i + 1 : Nat) : Int) := by
  have : maxLen = 9223372036854775807 := rfl
  rw [wrapE (by omega) (by omega)]; rfl

/-! ## Texts in lists -/

/-- Is it among them? -/
def memB (s : ByteArray) : List ByteArray → Bool
  | [] => false
  | x :: r => decide (x = s) || memB s r
theorem memB_iff {s : ByteArray} : ∀ {l : List ByteArray}, memB s l = true ↔ s ∈ l
  | [] => by simp [memB]
  | x :: r => by
    simp only [memB, Bool.or_eq_true, decide_eq_true_eq, memB_iff (l := r), List.mem_cons]
    exact ⟨fun h => h.imp Eq.symm id, fun h => h.imp Eq.symm id⟩
end Go.Abs
end

section
namespace Go.Abs

/-! ## Walking: forms that are gone through from the front -/

def normW (x : Option St) : Option (EX × St) := match x with
  | some st => some (.norm, st)
  | none => none
theorem normW_some (st : St) : normW (some st) = some (.norm, st) := rfl

def blockS (id : Nat) (x : Option (EX × St)) : Option (EX × St) := match x with
  | some (.exit i, st') => some (bif Nat.beq i id then .norm else .exit i, st')
  | r => r
theorem blockS_norm (id : Nat) (st : St) : blockS id (some (.norm, st)) = some (.norm, st) := rfl
theorem blockS_ret (id : Nat) (st : St) : blockS id (some (.ret, st)) = some (.ret, st) := rfl
theorem blockS_exit (id i : Nat) (st : St) : blockS id (some (.exit i, st)) = some (bif Nat.beq i id then .norm else .exit i, st) := rfl

def dstW (dst : Option Nat) (x : Option Out) : Option Out := match x with
    | some out => match dst with
      | some d => ask (!out.v.views (.slot d)) (some out)
      | none => some out
    | none => none
theorem dstW_some (d : Nat) (out : Out) : dstW (some d) (some out) = bif !out.v.views (.slot d) then some out else none := rfl
theorem dstW_nodst (out : Out) : dstW none (some out) = some out := rfl

def wantW (x : Option Bool) (y : Option Out) : Option Out := match x with
  | some true => y
  | some false => some { v := .undf }
  | none => none
theorem wantW_true (y : Option Out) : wantW (some true) y = y := rfl
theorem wantW_false (y : Option Out) : wantW (some false) y = some { v := .undf } := rfl

def clearW (base : Nat) (kept : List Nat) (x : Option St) : Option St := match x with
  | some st => clear base kept st
  | none => none
theorem clearW_some (base : Nat) (kept : List Nat) (st : St) : clearW base kept (some st) = clear base kept st := rfl

def feetW (base : Nat) (kept : List Nat) (sl : List (Nat × AV)) (bs : Option (List Nat)) (x : Option (St × List Foot × List (List (Nat × AV)))) : Option St := match bs, x with
  | some bs, some (st', fs, W) => bif orderedFrom [] bs fs && viewsOK sl fs W bs fs then clear base kept st' else none
  | _, _ => none
theorem feetW_some (base : Nat) (kept : List Nat) (sl : List (Nat × AV)) (bs : List Nat) (st' : St) (fs : List Foot) (W : List (List (Nat × AV))) :
    feetW base kept sl (some bs) (some (st', fs, W)) = bif orderedFrom [] bs fs && viewsOK sl fs W bs fs then clear base kept st' else none := rfl

def consFoot (f : Foot) (w : List (Nat × AV)) (x : Option (St × List Foot × List (List (Nat × AV)))) : Option (St × List Foot × List (List (Nat × AV))) := match x with
  | some (st', fs, W) => some (st', f :: fs, w :: W)
  | none => none
theorem consFoot_some (f : Foot) (w : List (Nat × AV)) (st' : St) (fs : List Foot) (W : List (List (Nat × AV))) : consFoot f w (some (st', fs, W)) = some (st', f :: fs, w :: W) := rfl

section
variable (G : Ctx) (call : CallF) (base nt : Nat)

def contOps (kept : List Nat) (ops rest : List Oper) (dst : Option Nat) (st : St) (x : Option Out) : Option St := match x with
  | some out => runOps G call base nt kept ops rest (st.put dst out)
  | none => none
theorem contOps_some (kept : List Nat) (ops rest : List Oper) (dst : Option Nat) (st : St) (out : Out) : contOps G call base nt kept ops rest dst st (some out) = runOps G call base nt kept ops rest (st.put dst out) := rfl
theorem runOpsW_nil (kept : List Nat) (ops : List Oper) (st : St) : runOps G call base nt kept ops [] st = some st := rfl
theorem runOpsW (kept : List Nat) (ops : List Oper) (o : Oper) (rest : List Oper) (st : St) :
    runOps G call base nt kept ops (o :: rest) st = contOps G call base nt kept ops rest o.dst st (stepOut G call base nt kept ops st.all (idsFor st o) o) := by
  simp only [runOps, contOps]
  cases stepOut G call base nt kept ops st.all (idsFor st o) o <;> rfl

theorem stepOutW (kept : List Nat) (ops : List Oper) (V : Vw) (ids : List Nat) (o : Oper) :
    stepOut G call base nt kept ops V ids o = bif okDst nt o.dst then wantW (wantedA ops V o) (dstW o.dst (opOut G call V ids base nt kept o)) else none := rfl

theorem regionW_f (kept : List Nat) (ops : List Oper) (st : St) : region G call base nt kept ops false st = clearW base kept (runOps G call base nt kept ops ops st) := by
  simp only [region, clearW]
  cases runOps G call base nt kept ops ops st <;> rfl
theorem regionW_t (kept : List Nat) (ops : List Oper) (st : St) : region G call base nt kept ops true st = feetW base kept st.sl (befores [] ops) (runFeet G call base nt kept ops ops st) := by
  simp only [region, feetW]
  cases befores [] ops <;> cases runFeet G call base nt kept ops ops st <;> rfl

def contFeet (kept : List Nat) (ops : List Oper) (o : Oper) (rest : List Oper) (st : St) (x : Option Out) : Option (St × List Foot × List (List (Nat × AV))) := match x with
  | some out => consFoot (footOf base ops st o out) (slotsAt (st.put o.dst out) (footOf base ops st o out).ws) (runFeet G call base nt kept ops rest (st.put o.dst out))
  | none => none
theorem contFeet_some (kept : List Nat) (ops : List Oper) (o : Oper) (rest : List Oper) (st : St) (out : Out) : contFeet G call base nt kept ops o rest st (some out) =
    consFoot (footOf base ops st o out) (slotsAt (st.put o.dst out) (footOf base ops st o out).ws) (runFeet G call base nt kept ops rest (st.put o.dst out)) := rfl
theorem runFeetW_nil (kept : List Nat) (ops : List Oper) (st : St) : runFeet G call base nt kept ops [] st = some (st, [], []) := rfl
theorem runFeetW (kept : List Nat) (ops : List Oper) (o : Oper) (rest : List Oper) (st : St) :
    runFeet G call base nt kept ops (o :: rest) st = contFeet G call base nt kept ops o rest st (stepOut G call base nt kept ops (mask st (looksSl ops st o) (looksId base st o)) (idsFor st o) o) := by
  simp only [runFeet, contFeet, consFoot]
  cases stepOut G call base nt kept ops (mask st (looksSl ops st o) (looksId base st o)) (idsFor st o) o with
  | none => rfl
  | some out => rfl

variable (kept : Nat → List Nat) (k : Nat)
def thenE (b : Code) (x : Option (EX × St)) : Option (EX × St) := match x with
  | some (.norm, st) => exec G call base nt kept k b st
  | some (e, st) => some (e, st)
  | none => none
theorem thenE_norm (b : Code) (st : St) : thenE G call base nt kept k b (some (.norm, st)) = exec G call base nt kept k b st := rfl
theorem thenE_ret (b : Code) (st : St) : thenE G call base nt kept k b (some (.ret, st)) = some (.ret, st) := rfl
theorem thenE_exit (b : Code) (i : Nat) (st : St) : thenE G call base nt kept k b (some (.exit i, st)) = some (.exit i, st) := rfl
def branchE (a b : Code) (st : St) (x : Option AV) : Option (EX × St) := match x with
  | some (.dv (.bool true)) => exec G call base nt kept k a st
  | some (.dv (.bool false)) => exec G call base nt kept k b st
  | _ => none
theorem branchE_true (a b : Code) (st : St) : branchE G call base nt kept k a b st (some (.dv (.bool true))) = exec G call base nt kept k a st := rfl
theorem branchE_false (a b : Code) (st : St) : branchE G call base nt kept k a b st (some (.dv (.bool false))) = exec G call base nt kept k b st := rfl

theorem execW_skip (st : St) : exec G call base nt kept k .skip st = some (.norm, st) := rfl
theorem execW_region (id : Nat) (ops : Array Oper) (draw : Bool) (st : St) : exec G call base nt kept k (.region id ops draw) st = normW (region G call base nt (kept id) ops.toList draw st) := by
  simp only [exec, normW]
  cases region G call base nt (kept id) ops.toList draw st <;> rfl
theorem execW_seq (a b : Code) (st : St) : exec G call base nt kept k (.seq a b) st = thenE G call base nt kept k b (exec G call base nt kept k a st) := by
  simp only [exec, thenE]
  cases exec G call base nt kept k a st with
  | none => rfl
  | some x => obtain ⟨e, st'⟩ := x; cases e <;> rfl
theorem execW_cond (c : Operand) (a b : Code) (st : St) : exec G call base nt kept k (.cond c a b) st = branchE G call base nt kept k a b st (opnd st.all c) := by
  simp only [exec, branchE]
  rcases opnd st.all c with _ | v
  · rfl
  · cases v <;> rfl
theorem execW_block (id : Nat) (a : Code) (st : St) : exec G call base nt kept k (.block id a) st = blockS id (exec G call base nt kept k a st) := by
  simp only [exec, blockS]
  cases exec G call base nt kept k a st with
  | none => rfl
  | some x => obtain ⟨e, st'⟩ := x; cases e <;> rfl
def loopW (a : Code) (st : St) : Option (EX × St) := loopN (exec G call base nt kept k a) k st
theorem execW_loop (a : Code) (st : St) : exec G call base nt kept k (.loop a) st = loopW G call base nt kept k a st := rfl
/-- A loop that is left in round j; the states ahead of the rounds. -/
theorem loopW_run {G : Ctx} {call : CallF} {base nt : Nat} {kept : Nat → List Nat} {k : Nat} {a : Code} {st0 : St} (S : Nat → St) (j : Nat) (e : EX) (st : St) (h0 : st0 = S 0) (hj : j < k)
    (h : ∀ i, i < j → exec G call base nt kept k a (S i) = some (.norm, S (i + 1))) (he : exec G call base nt kept k a (S j) = some (e, st)) (hne : e ≠ .norm) :
    loopW G call base nt kept k a st0 = some (e, st) := loopN_run h0 hj h he hne
theorem execW_exit (id : Nat) (st : St) : exec G call base nt kept k (.exit id) st = some (.exit id, st) := rfl
theorem execW_ret (st : St) : exec G call base nt kept k .ret st = some (.ret, st) := rfl

def endW (rs : List ResultVar) (x : Option (EX × St)) : Option (AV × List (Nat × Ent)) := match x with
  | some (.exit _, _) => none
  | some (_, st') => match resultsOf G base st' rs with
    | some r => bif below base (tbIds (oldTb base st'.tb)) then some (r, oldTb base st'.tb) else none
    | none => none
  | none => none
def endR (x : Option AV) (tb : List (Nat × Ent)) : Option (AV × List (Nat × Ent)) := match x with
  | some r => bif below base (tbIds tb) then some (r, tb) else none
  | none => none
theorem endW_ret (rs : List ResultVar) (st : St) : endW G base rs (some (.ret, st)) = endR base (resultsOf G base st rs) (oldTb base st.tb) := rfl
theorem endW_norm (rs : List ResultVar) (st : St) : endW G base rs (some (.norm, st)) = endR base (resultsOf G base st rs) (oldTb base st.tb) := rfl
theorem endR_some (r : AV) (tb : List (Nat × Ent)) : endR base (some r) tb = bif below base (tbIds tb) then some (r, tb) else none := rfl

theorem callStepW {f : FuncId} {fn : Func} {body : Code} {args : List AV} (hf : G.fn f = some fn) (hb : fn.body = some body) (hl : Nat.ble args.length fn.ntmps = true) (tb : List (Nat × Ent)) (lk : List Nat) :
    callStep G k call f args tb lk base = endW G base fn.results.toList (exec G call base fn.ntmps (G.kept f) k body { sl := argSl 0 args, tb := tb, lk := lk }) := by
  simp only [callStep, hf, hb, hl, cond_true, endW]
  cases exec G call base fn.ntmps (G.kept f) k body { sl := argSl 0 args, tb := tb, lk := lk } with
  | none => rfl
  | some x => obtain ⟨e, st'⟩ := x; cases e <;> rfl
end

theorem putW_v (st : St) (d : Nat) (v : AV) : st.put (some d) { v := v } = st.setSlot d v := rfl
theorem putW_none (st : St) (v : AV) : st.put none { v := v } = st := rfl
theorem setSlotW (st : St) (d : Nat) (v : AV) : st.setSlot d v = { st with sl := (d, v) :: bif (st.slot d).shown then killIn (AV.views (.slot d)) st.sl else st.sl } := by
  unfold St.setSlot; cases (st.slot d).shown <;> rfl
theorem findW_nil {α : Type} (n : Nat) : find n ([] : List (Nat × α)) = none := rfl
theorem findW {α : Type} (n k : Nat) (v : α) (l : List (Nat × α)) : find n ((k, v) :: l) = bif decide (k = n) then some v else find n l := by
  simp only [find, beqE]
theorem bqT (b : Bool) : (b == true) = b := by cases b <;> rfl
theorem bqF (b : Bool) : (b == false) = !b := by cases b <;> rfl
theorem takeMapW {α β : Type} (f : α → β) (l : List α) : List.take l.length (l.map f) = l.map f := by
  rw [show l.length = (l.map f).length by simp, List.take_length]
theorem testBitW (m n : Nat) : m.testBit n = decide (m / 2 ^ n % 2 = 1) := Nat.testBit_eq_decide_div_mod_eq
end Go.Abs
end

section
namespace Go.Abs

/-! ## Calls that are known: a list of them -/

/-- A call. -/
structure Q where
  f : FuncId
  as : List AV
  tb : List (Nat × Ent)
  lk : List Nat
  base : Nat

def CallF.ask (c : CallF) (q : Q) : Option (AV × List (Nat × Ent)) := c q.f q.as q.tb q.lk q.base

/-- What is known of some functions. -/
structure Spec where
  α : Type
  A : α → Q
  r : α → AV × List (Nat × Ent)
  ids : List FuncId
  inIds : ∀ a, (A a).f ∈ ids
  fits : ∀ a b, A a = A b → r a = r b

open Classical in
noncomputable def Spec.callP (s : Spec) (p : s.α → Prop) : CallF := fun f as tb lk base =>
  if h : ∃ a, p a ∧ s.A a = ⟨f, as, tb, lk, base⟩ then some (s.r h.choose) else none
noncomputable def Spec.call (s : Spec) : CallF := s.callP fun _ => True

def Spec.Known (s : Spec) (c : CallF) : Prop := ∀ a, c (s.A a).f (s.A a).as (s.A a).tb (s.A a).lk (s.A a).base = some (s.r a)

theorem Spec.callP_knows (s : Spec) {p : s.α → Prop} {a : s.α} (ha : p a) : (s.callP p).ask (s.A a) = some (s.r a) := by
  unfold CallF.ask Spec.callP
  have h : ∃ b, p b ∧ s.A b = ⟨(s.A a).f, (s.A a).as, (s.A a).tb, (s.A a).lk, (s.A a).base⟩ := ⟨a, ha, rfl⟩
  rw [dif_pos h]
  exact congrArg some (s.fits _ _ h.choose_spec.2)
theorem Spec.callP_none (s : Spec) {p : s.α → Prop} {f : FuncId} (h : f ∉ s.ids) (as tb lk base) : s.callP p f as tb lk base = none := by
  unfold Spec.callP
  rw [dif_neg]
  rintro ⟨a, _, e⟩
  have := s.inIds a
  rw [e] at this
  exact h this

section
variable {G : Ctx} {P : Program} {Gl : Fz → Prop}

theorem Spec.callP_ok (s : Spec) {p : s.α → Prop} (h : ∀ a, p a → ∃ c, CallsOK G P Gl c ∧ c.ask (s.A a) = some (s.r a)) : CallsOK G P Gl (s.callP p) := by
  intro f args tb lk base r' tb' hk
  unfold Spec.callP at hk
  split at hk
  · rename_i hc
    obtain ⟨hp, e⟩ := hc.choose_spec
    obtain ⟨c, h1, h2⟩ := h _ hp
    unfold CallF.ask at h2
    rw [e] at h2
    rw [Option.some.inj hk] at h2
    exact h1 _ _ _ _ _ _ _ h2
  · cases hk

theorem ask_left {O c : CallF} {q : Q} {r} (h : O.ask q = some r) : (orElse O c).ask q = some r := by
  unfold CallF.ask at h ⊢; simp only [orElse, h]
theorem ask_right {s : Spec} {p : s.α → Prop} {c : CallF} {q : Q} {r} (hn : q.f ∉ s.ids) (h : c.ask q = some r) : (orElse (s.callP p) c).ask q = some r := by
  unfold CallF.ask at h ⊢; simp only [orElse, s.callP_none hn, h]

/-- All that is known. -/
noncomputable def reg : List Spec → CallF
  | [] => noCalls
  | s :: r => orElse s.call (reg r)

/-- None twice. -/
def idsOK : List Spec → Bool
  | [] => true
  | s :: r => r.all (fun t => t.ids.all fun i => !has i s.ids) && idsOK r

theorem idsOK_apart {s t : Spec} {L : List Spec} (h : idsOK (s :: L) = true) (ht : t ∈ L) (a : t.α) : (t.A a).f ∉ s.ids := by
  simp only [idsOK, Bool.and_eq_true] at h
  have := List.all_eq_true.1 (List.all_eq_true.1 h.1 t ht) _ (t.inIds a)
  intro hm
  have : ∀ l : List Nat, (t.A a).f ∈ l → has (t.A a).f l = true := by
    intro l
    induction l with
    | nil => simp
    | cons x l ih =>
      intro hx
      simp only [has, beqE]
      rcases List.mem_cons.1 hx with rfl | hx
      · simp
      · rw [ih hx]; cases decide (x = (t.A a).f) <;> rfl
  simp_all

theorem reg_knows : ∀ {L : List Spec}, idsOK L = true → ∀ t ∈ L, t.Known (reg L)
  | [], _, t, ht, _ => by simp at ht
  | s :: L, h, t, ht, a => by
    rcases List.mem_cons.1 ht with rfl | ht'
    · exact ask_left (Spec.callP_knows _ trivial)
    · by_cases he : (t.A a).f ∈ s.ids
      · exact absurd he (idsOK_apart h ht' a)
      · exact ask_right he (reg_knows (by simp only [idsOK, Bool.and_eq_true] at h; exact h.2) t ht' a)

theorem reg_nil : CallsOK G P Gl (reg []) := noCalls_ok

/-- One more, known elsewhere. -/
theorem reg_add {L : List Spec} {s : Spec} (hL : CallsOK G P Gl (reg L)) (h : ∀ a, ∃ c, CallsOK G P Gl c ∧ c (s.A a).f (s.A a).as (s.A a).tb (s.A a).lk (s.A a).base = some (s.r a)) : CallsOK G P Gl (reg (s :: L)) :=
  orElse_ok (s.callP_ok fun a _ => h a) hL

/-- One more, that may call itself with less. -/
theorem reg_rec (pr : Prims G P Gl) (tie : Ties G P) {L : List Spec} {s : Spec} (hL : CallsOK G P Gl (reg L)) (hd : idsOK (s :: L) = true) (d : s.α → Nat)
    (h : ∀ c : CallF, (∀ t ∈ L, t.Known c) → ∀ a, (∀ b, d b < d a → c (s.A b).f (s.A b).as (s.A b).tb (s.A b).lk (s.A b).base = some (s.r b)) → ∃ k, callStep G k c (s.A a).f (s.A a).as (s.A a).tb (s.A a).lk (s.A a).base = some (s.r a)) : CallsOK G P Gl (reg (s :: L)) := by
  have hL' : idsOK L = true := by simp only [idsOK, Bool.and_eq_true] at hd; exact hd.2
  have main : ∀ n, CallsOK G P Gl (orElse (s.callP fun a => d a < n) (reg L)) := by
    intro n
    induction n with
    | zero => exact orElse_ok (s.callP_ok fun a ha => absurd ha (Nat.not_lt_zero _)) hL
    | succ n ih =>
      refine orElse_ok (s.callP_ok fun a ha => ?_) hL
      obtain ⟨k, hk⟩ := h (orElse (s.callP fun a => d a < n) (reg L)) (fun t ht b => ask_right (idsOK_apart hd ht b) (reg_knows hL' t ht b)) a
        (fun b hb => ask_left (Spec.callP_knows _ (by omega)))
      exact ⟨_, step_ok pr tie k ih, hk⟩
  refine orElse_ok (s.callP_ok fun a _ => ?_) hL
  exact ⟨_, main (d a + 1), ask_left (Spec.callP_knows _ (by omega))⟩
/-- One more, that doesn't call itself. -/
theorem reg_one (pr : Prims G P Gl) (tie : Ties G P) {L : List Spec} {s : Spec} (hL : CallsOK G P Gl (reg L)) (hd : idsOK (s :: L) = true)
    (h : ∀ c : CallF, (∀ t ∈ L, t.Known c) → ∀ a, ∃ k, callStep G k c (s.A a).f (s.A a).as (s.A a).tb (s.A a).lk (s.A a).base = some (s.r a)) : CallsOK G P Gl (reg (s :: L)) :=
  reg_rec pr tie hL hd (fun _ => 0) fun c hc a _ => h c hc a
end

/-! ## Loops: changes of slots and boxes -/

def updL {α : Type} (l : List (Nat × α)) : List (Nat × α) → List (Nat × α)
  | [] => []
  | (t, v) :: r => (match find t l with | some u => (t, u) | none => (t, v)) :: updL l r
def St.upd (st : St) (l : List (Nat × AV)) (m : List (Nat × Ent)) : St := ⟨updL l st.sl, updL m st.tb, st.lk⟩

/-- A round of a loop: goes on so, or is left so. -/
def Turn (x : Option (EX × St)) (q : St → Prop) (m : Option (EX × St) → Prop) : Prop := match x with
  | some (.norm, st) => q st
  | some r => m (some r)
  | none => False
theorem Turn_norm (st : St) (q m) : Turn (some (.norm, st)) q m = q st := rfl
theorem Turn_ret (st : St) (q m) : Turn (some (.ret, st)) q m = m (some (.ret, st)) := rfl
theorem Turn_exit (i : Nat) (st : St) (q m) : Turn (some (.exit i, st)) q m = m (some (.exit i, st)) := rfl
/-- A loop's end. -/
def Ends (x : Option (EX × St)) (m : Option (EX × St) → Prop) : Prop := Turn x (fun _ => False) m
theorem Ends_ret (st : St) (m) : Ends (some (.ret, st)) m = m (some (.ret, st)) := rfl
theorem Ends_exit (i : Nat) (st : St) (m) : Ends (some (.exit i, st)) m = m (some (.exit i, st)) := rfl

section
variable {α β ρ : Type} {G : Ctx} {call : CallF} {base nt : Nat} {kept : Nat → List Nat} {k : Nat} {a : Code} {st0 : St}

/-- A loop over a list: R tells what comes of the rest of it; S: the state ahead of round i; I: what holds there. -/
theorem loopW_listI (I : Nat → β → Prop) (R : List α → β → ρ) (S : Nat → β → St) (xs : List α) (b0 : β) {motive : Option (EX × St) → ρ → Prop} {X : Option (EX × St)} {r : ρ}
    (hX : loopW G call base nt kept k a st0 = X) (hr : R xs b0 = r) (h0 : st0 = S 0 b0) (hk : xs.length < k) (hI : I 0 b0)
    (hend : ∀ b, I xs.length b → Ends (exec G call base nt kept k a (S xs.length b)) fun y => motive y (R [] b))
    (hstep : ∀ i x t b, i < xs.length → xs[i]? = some x → xs.drop i = x :: t → I i b →
      Turn (exec G call base nt kept k a (S i b)) (fun st => ∃ b', st = S (i + 1) b' ∧ I (i + 1) b' ∧ R (x :: t) b = R t b') fun y => motive y (R (x :: t) b)) :
    motive X r := by
  subst hX hr h0
  unfold loopW
  have main : ∀ n i b, n + i = xs.length → I i b → ∀ k', n < k' → motive (loopN (exec G call base nt kept k a) k' (S i b)) (R (xs.drop i) b) := by
    intro n
    induction n with
    | zero =>
      intro i b hi hb k' hk'
      have : i = xs.length := by omega
      subst this
      cases k' with
      | zero => omega
      | succ k' =>
        have h := hend b hb
        simp only [loopN, List.drop_length]
        cases hx : exec G call base nt kept k a (S xs.length b) with
        | none => rw [hx] at h; exact h.elim
        | some y =>
          obtain ⟨e, st⟩ := y
          rw [hx] at h
          cases e with
          | norm => exact h.elim
          | ret => exact h
          | exit j => exact h
    | succ n ih =>
      intro i b hi hb k' hk'
      have hlt : i < xs.length := by omega
      cases k' with
      | zero => omega
      | succ k' =>
        have hd : xs.drop i = xs[i] :: xs.drop (i + 1) := List.drop_eq_getElem_cons hlt
        have h := hstep i xs[i] (xs.drop (i + 1)) b hlt (by simp [hlt]) hd hb
        simp only [loopN, hd]
        cases hx : exec G call base nt kept k a (S i b) with
        | none => rw [hx] at h; exact h.elim
        | some y =>
          obtain ⟨e, st⟩ := y
          rw [hx] at h
          cases e with
          | norm =>
            obtain ⟨b', h1, h2, h3⟩ := h
            subst h1
            simp only [h3]
            exact ih (i + 1) b' (by omega) h2 k' (by omega)
          | ret => exact h
          | exit j => exact h
  have := main xs.length 0 b0 (by omega) hI k hk
  simpa using this

theorem loopW_list (R : List α → β → ρ) (S : Nat → β → St) (xs : List α) (b0 : β) {motive : Option (EX × St) → ρ → Prop} {X : Option (EX × St)} {r : ρ}
    (hX : loopW G call base nt kept k a st0 = X) (hr : R xs b0 = r) (h0 : st0 = S 0 b0) (hk : xs.length < k)
    (hend : ∀ b, Ends (exec G call base nt kept k a (S xs.length b)) fun y => motive y (R [] b))
    (hstep : ∀ i x t b, i < xs.length → xs[i]? = some x → xs.drop i = x :: t →
      Turn (exec G call base nt kept k a (S i b)) (fun st => ∃ b', st = S (i + 1) b' ∧ R (x :: t) b = R t b') fun y => motive y (R (x :: t) b)) :
    motive X r := by
  refine loopW_listI (fun _ _ => True) R S xs b0 hX hr h0 hk trivial (fun b _ => hend b) fun i x t b hi hx ht _ => ?_
  have h := hstep i x t b hi hx ht
  cases he : exec G call base nt kept k a (S i b) with
  | none => rw [he] at h; exact h.elim
  | some y =>
    obtain ⟨e, st⟩ := y
    rw [he] at h
    cases e with
    | norm => obtain ⟨b', h1, h2⟩ := h; exact ⟨b', h1, trivial, h2⟩
    | ret => exact h
    | exit j => exact h
end
section
variable {α β ρ : Type} {G : Ctx} {call : CallF} {base nt : Nat} {kept : Nat → List Nat} {k : Nat} {a : Code} {st0 : St}

/-- A loop that changes nothing but where it stands. -/
theorem loopU (xs : List α) (R : List α → ρ) (C : Nat → List (Nat × AV)) {motive : Option (EX × St) → ρ → Prop} {X : Option (EX × St)} {r : ρ}
    (hX : loopW G call base nt kept k a st0 = X) (hr : R xs = r) (hk : xs.length < k) (h0 : st0 = st0.upd (C 0) [])
    (hend : Ends (exec G call base nt kept k a (st0.upd (C xs.length) [])) fun y => motive y (R []))
    (hstep : ∀ i x t, i < xs.length → xs[i]? = some x → xs.drop i = x :: t →
      Turn (exec G call base nt kept k a (st0.upd (C i) [])) (fun st => st = st0.upd (C (i + 1)) [] ∧ R (x :: t) = R t) fun y => motive y (R (x :: t))) :
    motive X r := by
  refine loopW_list (fun l (_ : Unit) => R l) (fun i _ => st0.upd (C i) []) xs () hX hr h0 hk (fun _ => hend) fun i x t _ hi hx ht => ?_
  have h := hstep i x t hi hx ht
  cases he : exec G call base nt kept k a (st0.upd (C i) []) with
  | none => rw [he] at h; exact h.elim
  | some y =>
    obtain ⟨e, st⟩ := y
    rw [he] at h
    cases e with
    | norm => obtain ⟨h1, h2⟩ := h; exact ⟨(), h1, h2⟩
    | ret => exact h
    | exit j => exact h

/-- A loop that gathers something: N tells what is gathered behind a round. -/
theorem loopA (xs : List α) (b0 : β) (I : Nat → β → Prop) (N : α → β → β) (R : List α → β → ρ) (C : Nat → β → List (Nat × AV)) (T : Nat → β → List (Nat × Ent)) {motive : Option (EX × St) → ρ → Prop} {X : Option (EX × St)} {r : ρ}
    (hX : loopW G call base nt kept k a st0 = X) (hr : R xs b0 = r) (hk : xs.length < k) (h0 : st0 = st0.upd (C 0 b0) (T 0 b0)) (hI : I 0 b0)
    (hend : ∀ b, I xs.length b → Ends (exec G call base nt kept k a (st0.upd (C xs.length b) (T xs.length b))) fun y => motive y (R [] b))
    (hstep : ∀ i x t b, i < xs.length → xs[i]? = some x → xs.drop i = x :: t → I i b →
      Turn (exec G call base nt kept k a (st0.upd (C i b) (T i b))) (fun st => st = st0.upd (C (i + 1) (N x b)) (T (i + 1) (N x b)) ∧ I (i + 1) (N x b) ∧ R (x :: t) b = R t (N x b)) fun y => motive y (R (x :: t) b)) :
    motive X r := by
  refine loopW_listI I R (fun i b => st0.upd (C i b) (T i b)) xs b0 hX hr h0 hk hI hend fun i x t b hi hx ht hb => ?_
  have h := hstep i x t b hi hx ht hb
  cases he : exec G call base nt kept k a (st0.upd (C i b) (T i b)) with
  | none => rw [he] at h; exact h.elim
  | some y =>
    obtain ⟨e, st⟩ := y
    rw [he] at h
    cases e with
    | norm => obtain ⟨h1, h2, h3⟩ := h; exact ⟨_, h1, h2, h3⟩
    | ret => exact h
    | exit j => exact h
end

section
variable {α : Type} {G : Ctx} {call : CallF} {base nt : Nat} {kept : Nat → List Nat} {k : Nat} {a : Code} {st0 : St}
/-- A loop over a list, with the states ahead of the rounds. -/
theorem loopT (xs : List α) (C : Nat → List (Nat × AV)) (T : Nat → List (Nat × Ent)) {motive : Option (EX × St) → Prop} {X : Option (EX × St)}
    (hX : loopW G call base nt kept k a st0 = X) (hk : xs.length < k) (h0 : st0 = st0.upd (C 0) (T 0))
    (hend : Ends (exec G call base nt kept k a (st0.upd (C xs.length) (T xs.length))) motive)
    (hstep : ∀ i x, i < xs.length → xs[i]? = some x →
      Turn (exec G call base nt kept k a (st0.upd (C i) (T i))) (fun st => st = st0.upd (C (i + 1)) (T (i + 1))) motive) :
    motive X := by
  refine loopW_list (fun _ (_ : Unit) => ()) (fun i _ => st0.upd (C i) (T i)) xs () (motive := fun y _ => motive y) hX rfl h0 hk (fun _ => hend) fun i x t _ hi hx ht => ?_
  have h := hstep i x hi hx
  cases he : exec G call base nt kept k a (st0.upd (C i) (T i)) with
  | none => rw [he] at h; exact h.elim
  | some y =>
    obtain ⟨e, st⟩ := y
    rw [he] at h
    cases e with
    | norm => exact ⟨(), h, rfl⟩
    | ret => exact h
    | exit j => exact h
end
/-- A loop whose rounds make something less. -/
theorem loopW_wf {σ : Type} {G : Ctx} {call : CallF} {base nt : Nat} {kept : Nat → List Nat} {k : Nat} {a : Code} {st0 : St} (S : σ → St) (I : σ → Prop) (μ : σ → Nat) (s0 : σ) {motive : Option (EX × St) → Prop} {X : Option (EX × St)}
    (hX : loopW G call base nt kept k a st0 = X) (h0 : st0 = S s0) (hI : I s0) (hk : μ s0 < k)
    (hstep : ∀ s, I s → Turn (exec G call base nt kept k a (S s)) (fun st => ∃ s', st = S s' ∧ I s' ∧ μ s' < μ s) motive) : motive X := by
  subst hX h0
  unfold loopW
  have main : ∀ n s, μ s = n → I s → ∀ k', n < k' → motive (loopN (exec G call base nt kept k a) k' (S s)) := by
    intro n
    induction n using Nat.strongRecOn with
    | _ n ih =>
      intro s hs hi k' hk'
      cases k' with
      | zero => omega
      | succ k' =>
        have h := hstep s hi
        simp only [loopN]
        cases hx : exec G call base nt kept k a (S s) with
        | none => rw [hx] at h; exact h.elim
        | some y =>
          obtain ⟨e, st⟩ := y
          rw [hx] at h
          cases e with
          | norm =>
            obtain ⟨s', h1, h2, h3⟩ := h
            subst h1
            exact ih (μ s') (by omega) s' rfl h2 k' (by omega)
          | ret => exact h
          | exit j => exact h
  exact main (μ s0) s0 rfl hI k hk
attribute [irreducible] Turn Ends
end Go.Abs
namespace Go.Abs
theorem run_of {G : Ctx} {P : Program} {Gl : Fz → Prop} (pr : Prims G P Gl) (tie : Ties G P) {L : List Spec} (hok : CallsOK G P Gl (reg L)) (hd : idsOK L = true) {f : FuncId} {as : List AV}
    (h : ∀ c : CallF, (∀ t ∈ L, t.Known c) → ∃ k, callStep G k c f as [] [] 0 = some (.dv (.bool true), [])) : ∃ call tb, CallsOK G P Gl call ∧ call f as [] [] 0 = some (.dv (.bool true), tb) :=
  let ⟨k, hk⟩ := h _ (reg_knows hd)
  ⟨_, [], step_ok pr tie k hok, hk⟩
end Go.Abs
end

section
namespace Go.Abs
attribute [go_sem] execW_skip execW_region execW_seq execW_cond execW_block execW_loop execW_exit execW_ret regionW_f regionW_t runOpsW runOpsW_nil runFeetW runFeetW_nil stepOutW contOps_some contFeet_some consFoot_some clearW_some feetW_some normW_some thenE_norm thenE_ret thenE_exit branchE_true branchE_false blockS_norm blockS_ret blockS_exit dstW_some dstW_nodst wantW_true wantW_false endW_ret endW_norm endR_some putW_v putW_none setSlotW findW findW_nil ask okDst bltE bleE beqE intLeE intEqE eqBE natOfE natOf0 wantedA opOut typeIf moveOut isKept has opnd ofVal St.all St.slot St.ent isConst St.put List.foldl List.foldr AV.views Org.eq AV.typed idsFor isCall callOf builtinOf lenOf lenOut look AV.toDV binOut kindEq intBin strBin clear keepSl AV.norm slIds AV.ids allLive killIn assignOut putIn AV.solid unOut scalar indexAddrOut indexOut idxOf intOf loadOut dest loadDeep cut DV.join List.drop List.take St.setPlace St.freeze1 St.kill1 argSl resultsOf resultsL resultOf oldTb tbIds below freeze List.nil_append List.append_nil List.cons_append List.length_cons List.length_nil decide_true decide_false cond_true cond_false Bool.not_true Bool.not_false Bool.and_true Bool.true_and Bool.and_self Bool.false_and Bool.and_false Bool.or_true Bool.true_or Bool.false_or Bool.or_false List.getElem?_cons_zero List.getElem?_cons_succ Int.ofNat_le Int.ofNat_inj Option.toList boxOut newBox fresh fieldAddrOut Dest.add Dest.av loadBox loadOne loadAgg peek thaw ownCells allSolid storeOut buildSliceOut deeps deep deepAt setAll allSize valueOf resolveF callOut callOut0 argsOf arg AV.tidy AV.tidys AV.toDVs AV.flat AV.flats DV.flat DV.flats anyLocked Vw.locked Vw.at_ AV.noIds AV.idss pickOut see put1 reach newIds idsOf reachN entIds Ent.ids keepTb oldIds Ent.norm slotIds tmpsOf List.map_cons List.map_nil List.zip_cons_cons List.zip_nil_right List.zip_nil_left List.replicate List.set eq_self List.length_set isAggT Op.operands List.reverse_cons List.reverse_nil extractOut Nat.le_refl Nat.zero_add Nat.add_zero atomsE atomsD atomsA appendOut appendOf St.take1 lookupOut Ctx.elem Ctx.mapElem AV.join Bool.cond_self bqT bqF List.take_length takeMapW mask looksSl looksId guardSlot slotViews slotVids derefs AV.vslots AV.vids Org.slots Org.ids footOf orgSlots orgIds anyViews viewers placesOf dstKill noKills numsOf growIds slotsAt befores bitsOf apartFrom orderedFrom Foot.apart disj endsIn endsAll viewsOK Region.binds testBitW Nat.zero_or Nat.or_zero List.foldl_nil AV.viewsIn Call.operands Array.toList_append Option.toArray Array.size_append List.size_toArray loadElem St.upd updL Turn_norm Turn_ret Turn_exit Ends_ret Ends_exit
def lookK (l : List (Nat × List Nat)) : Nat → List Nat := fun i => match find i l with
  | some l => l
  | none => []
end Go.Abs
end

section
namespace Go.Abs

theorem cleLit (n k : Nat) : ((n : Nat) : Int) ≤ (no_index (OfNat.ofNat k : Int)) ↔ n ≤ k := by
  show (n : Int) ≤ ((k : Nat) : Int) ↔ n ≤ k
  omega
theorem litLeC (n k : Nat) : (no_index (OfNat.ofNat k : Int)) ≤ ((n : Nat) : Int) ↔ k ≤ n := by
  show ((k : Nat) : Int) ≤ (n : Int) ↔ k ≤ n
  omega
theorem ceqLit (n k : Nat) : ((n : Nat) : Int) = (no_index (OfNat.ofNat k : Int)) ↔ n = k := by
  show (n : Int) = ((k : Nat) : Int) ↔ n = k
  omega
theorem min1E (n : Nat) : (bif decide (n ≤ 1) then (n : Int) else 1) = ((min 1 n : Nat) : Int) := by
  by_cases h : n ≤ 1
  · simp only [h, decide_true, cond_true]; congr 1; omega
  · simp only [h, decide_false, cond_false]; have : min 1 n = 1 := by omega
    rw [this]; rfl
theorem take1E {α β : Type} (f : α → β) (l : List α) : List.take (min 1 l.length) (List.map f l) = List.map f (List.take 1 l) := by
  cases l with
  | nil => rfl
  | cons x r => simp
theorem take1E' {α : Type} (l : List α) : List.take (min 1 l.length) l = List.take 1 l := by
  cases l with
  | nil => rfl
  | cons x r => simp
theorem bneFn (p : Prop) [Decidable p] : (!decide p) = decide (¬ p) := by simp
attribute [go_sem] cleLit litLeC ceqLit min1E take1E take1E' minMaxOut minMax sliceOut optIdx Nat.min_le_right Int.le_refl List.length_map
end Go.Abs
namespace Go.Abs
end Go.Abs
namespace Go.Abs
theorem min1F (n : Nat) : (bif decide (1 ≤ n) then (1 : Int) else (n : Int)) = ((min 1 n : Nat) : Int) := by
  by_cases h : 1 ≤ n
  · simp only [h, decide_true, cond_true]; have : min 1 n = 1 := by omega
    rw [this]; rfl
  · simp only [h, decide_false, cond_false]; congr 1; omega
theorem cells_agg (l : List DV) : (DV.agg l).cells = l := rfl
theorem cells_int (k : IntKind) (n : Int) : (DV.int k n).cells = [.int k n] := rfl
theorem cells_str (b : ByteArray) : (DV.str b).cells = [.str b] := rfl
theorem cells_bool (b : Bool) : (DV.bool b).cells = [.bool b] := rfl
theorem cells_lst (l : List DV) : (DV.lst l).cells = [.lst l] := rfl
theorem cells_nilp : DV.nilp.cells = [.nilp] := rfl
theorem cells_ptr (l : List DV) (n : Nat) : (DV.ptr l n).cells = [.ptr l n] := rfl
theorem cells_nili : DV.nili.cells = [.nili] := rfl
theorem cells_ifc (t : TypeId) (d : DV) : (DV.ifc t d).cells = [.ifc t d] := rfl
theorem cells_nilf : DV.nilf.cells = [.nilf] := rfl
theorem cells_nilm : DV.nilm.cells = [.nilm] := rfl
theorem cells_fn (f : FuncId) (l : List DV) : (DV.fn f l).cells = [.fn f l] := rfl
theorem cells_map (l : List (ByteArray × DV)) : (DV.map l).cells = [.map l] := rfl
attribute [go_sem] cells_agg cells_int cells_str cells_bool cells_lst cells_nilp cells_ptr cells_nili cells_ifc cells_nilf cells_nilm cells_fn cells_map
theorem headSize_nil (k : Nat) : headSize k [] = true := rfl
theorem headSize_cons (k : Nat) (v : DV) (r : List DV) : headSize k (v :: r) = decide (v.cells.length = k) := by simp only [headSize, beqE]
theorem headSize_map {α : Type} {f : α → DV} {k : Nat} (h : ∀ x, (f x).cells.length = k) (l : List α) : headSize k (List.map f l) = true := by
  cases l with
  | nil => rfl
  | cons x r => simp [headSize, h x]
theorem atomsE_map {α : Type} {f : α → DV} (h : ∀ x, atomsD (f x).cells = true) (l : List α) : atomsE (List.map f l) = true := by
  induction l with
  | nil => rfl
  | cons x r ih => simp [atomsE, h x, ih]
theorem headSize_int (l : List Int) : headSize 1 (List.map (DV.int .i64) l) = true := headSize_map (fun x => by rfl) l
theorem headSize_str (l : List ByteArray) : headSize 1 (List.map DV.str l) = true := headSize_map (fun x => by rfl) l
theorem atomsE_int (l : List Int) : atomsE (List.map (DV.int .i64) l) = true := atomsE_map (fun x => by rfl) l
theorem atomsE_str (l : List ByteArray) : atomsE (List.map DV.str l) = true := atomsE_map (fun x => by rfl) l
theorem capOK {n : Nat} (h : n ≤ 140737488355328) : decide (n ≤ 140737488355328) = true := decide_eq_true h
theorem capOK2 {n : Nat} (h : n ≤ 9223372036854775807) : decide (n ≤ 9223372036854775807) = true := decide_eq_true h
theorem capOK3 {n : Nat} (h : n ≤ 16777216) : decide (n ≤ 16777216) = true := decide_eq_true h
attribute [go_sem] min1F headSize_nil headSize_cons capOK capOK2 capOK3 headSize_int headSize_str atomsE_int atomsE_str
end Go.Abs
attribute [go_sem] Nat.zero_le forall_const implies_true true_and and_true
namespace Go.Abs
theorem succ_le_zero (n : Nat) : (n + 1 ≤ 0) = False := by simp
theorem succ_eq_zero (n : Nat) : (n + 1 = 0) = False := by simp
theorem one_le_succ (n : Nat) : (1 ≤ n + 1) = True := by simp
theorem zero_eq_succ (n : Nat) : (0 = n + 1) = False := by simp
attribute [go_sem] succ_le_zero succ_eq_zero one_le_succ zero_eq_succ
end Go.Abs
namespace Go.Abs
theorem avcells_bool (b : Bool) : AV.cells (.dv (.bool b)) = [.dv (.bool b)] := rfl
theorem avshown_bool (b : Bool) : AV.shown (.dv (.bool b)) = false := rfl
theorem avatom_bool (b : Bool) : AV.atom (.dv (.bool b)) = true := rfl
theorem dvatom_bool (b : Bool) : DV.atom (.bool b) = true := rfl
theorem avcells_int (k : IntKind) (n : Int) : AV.cells (.dv (.int k n)) = [.dv (.int k n)] := rfl
theorem avshown_int (k : IntKind) (n : Int) : AV.shown (.dv (.int k n)) = false := rfl
theorem avatom_int (k : IntKind) (n : Int) : AV.atom (.dv (.int k n)) = true := rfl
theorem dvatom_int (k : IntKind) (n : Int) : DV.atom (.int k n) = true := rfl
theorem avcells_str (b : ByteArray) : AV.cells (.dv (.str b)) = [.dv (.str b)] := rfl
theorem avshown_str (b : ByteArray) : AV.shown (.dv (.str b)) = false := rfl
theorem avatom_str (b : ByteArray) : AV.atom (.dv (.str b)) = true := rfl
theorem dvatom_str (b : ByteArray) : DV.atom (.str b) = true := rfl
theorem avcells_nilp  : AV.cells (.dv .nilp) = [.dv .nilp] := rfl
theorem avshown_nilp  : AV.shown (.dv .nilp) = false := rfl
theorem avatom_nilp  : AV.atom (.dv .nilp) = true := rfl
theorem dvatom_nilp  : DV.atom .nilp = true := rfl
theorem avcells_ptr (l : List DV) (n : Nat) : AV.cells (.dv (.ptr l n)) = [.dv (.ptr l n)] := rfl
theorem avshown_ptr (l : List DV) (n : Nat) : AV.shown (.dv (.ptr l n)) = false := rfl
theorem avatom_ptr (l : List DV) (n : Nat) : AV.atom (.dv (.ptr l n)) = true := rfl
theorem dvatom_ptr (l : List DV) (n : Nat) : DV.atom (.ptr l n) = true := rfl
theorem avcells_lst (l : List DV) : AV.cells (.dv (.lst l)) = [.dv (.lst l)] := rfl
theorem avshown_lst (l : List DV) : AV.shown (.dv (.lst l)) = true := rfl
theorem avatom_lst (l : List DV) : AV.atom (.dv (.lst l)) = true := rfl
theorem dvatom_lst (l : List DV) : DV.atom (.lst l) = true := rfl
theorem avcells_nilm  : AV.cells (.dv .nilm) = [.dv .nilm] := rfl
theorem avshown_nilm  : AV.shown (.dv .nilm) = false := rfl
theorem avatom_nilm  : AV.atom (.dv .nilm) = true := rfl
theorem dvatom_nilm  : DV.atom .nilm = true := rfl
theorem avcells_map (l : List (ByteArray × DV)) : AV.cells (.dv (.map l)) = [.dv (.map l)] := rfl
theorem avshown_map (l : List (ByteArray × DV)) : AV.shown (.dv (.map l)) = false := rfl
theorem avatom_map (l : List (ByteArray × DV)) : AV.atom (.dv (.map l)) = true := rfl
theorem dvatom_map (l : List (ByteArray × DV)) : DV.atom (.map l) = true := rfl
theorem avcells_fn (f : FuncId) (l : List DV) : AV.cells (.dv (.fn f l)) = [.dv (.fn f l)] := rfl
theorem avshown_fn (f : FuncId) (l : List DV) : AV.shown (.dv (.fn f l)) = false := rfl
theorem avatom_fn (f : FuncId) (l : List DV) : AV.atom (.dv (.fn f l)) = true := rfl
theorem dvatom_fn (f : FuncId) (l : List DV) : DV.atom (.fn f l) = true := rfl
theorem avcells_nilf  : AV.cells (.dv .nilf) = [.dv .nilf] := rfl
theorem avshown_nilf  : AV.shown (.dv .nilf) = false := rfl
theorem avatom_nilf  : AV.atom (.dv .nilf) = true := rfl
theorem dvatom_nilf  : DV.atom .nilf = true := rfl
theorem avcells_ifc (t : TypeId) (d : DV) : AV.cells (.dv (.ifc t d)) = [.dv (.ifc t d)] := rfl
theorem avshown_ifc (t : TypeId) (d : DV) : AV.shown (.dv (.ifc t d)) = false := rfl
theorem avatom_ifc (t : TypeId) (d : DV) : AV.atom (.dv (.ifc t d)) = true := rfl
theorem dvatom_ifc (t : TypeId) (d : DV) : DV.atom (.ifc t d) = true := rfl
theorem avcells_nili  : AV.cells (.dv .nili) = [.dv .nili] := rfl
theorem avshown_nili  : AV.shown (.dv .nili) = false := rfl
theorem avatom_nili  : AV.atom (.dv .nili) = true := rfl
theorem dvatom_nili  : DV.atom .nili = true := rfl
theorem avcells_agg (l : List DV) : AV.cells (.dv (.agg l)) = l.map .dv := rfl
theorem avshown_agg (l : List DV) : AV.shown (.dv (.agg l)) = false := rfl
theorem avatom_agg (l : List DV) : AV.atom (.dv (.agg l)) = false := rfl
theorem dvatom_agg (l : List DV) : DV.atom (.agg l) = false := rfl
theorem xcells_ptr (i n : Nat) : AV.cells (.ptr i n) = [(.ptr i n)] := rfl
theorem xshown_ptr (i n : Nat) : AV.shown (.ptr i n) = false := rfl
theorem xatom_ptr (i n : Nat) : AV.atom (.ptr i n) = true := rfl
theorem xcells_own (e : TypeId) (l : List DV) : AV.cells (.own e l) = [(.own e l)] := rfl
theorem xshown_own (e : TypeId) (l : List DV) : AV.shown (.own e l) = true := rfl
theorem xatom_own (e : TypeId) (l : List DV) : AV.atom (.own e l) = true := rfl
theorem xcells_nils (e : TypeId) : AV.cells (.nils e) = [(.nils e)] := rfl
theorem xshown_nils (e : TypeId) : AV.shown (.nils e) = false := rfl
theorem xatom_nils (e : TypeId) : AV.atom (.nils e) = true := rfl
theorem xcells_map (i : Nat) : AV.cells (.map i) = [(.map i)] := rfl
theorem xshown_map (i : Nat) : AV.shown (.map i) = false := rfl
theorem xatom_map (i : Nat) : AV.atom (.map i) = true := rfl
theorem xcells_ifc (t : TypeId) (v : AV) : AV.cells (.ifc t v) = [(.ifc t v)] := rfl
theorem xshown_ifc (t : TypeId) (v : AV) : AV.shown (.ifc t v) = false := rfl
theorem xatom_ifc (t : TypeId) (v : AV) : AV.atom (.ifc t v) = true := rfl
theorem xcells_fn (f : FuncId) (l : List AV) : AV.cells (.fn f l) = [(.fn f l)] := rfl
theorem xshown_fn (f : FuncId) (l : List AV) : AV.shown (.fn f l) = false := rfl
theorem xatom_fn (f : FuncId) (l : List AV) : AV.atom (.fn f l) = true := rfl
theorem xcells_aggA (l : List AV) : AV.cells (.agg l) = l := rfl
theorem xshown_aggA (l : List AV) : AV.shown (.agg l) = false := rfl
theorem xatom_aggA (l : List AV) : AV.atom (.agg l) = false := rfl
theorem xshown_vw (o : Org) (k : Nat) : AV.shown (.vw o k) = false := rfl
theorem xshown_vp (o : Org) (j f : Nat) : AV.shown (.vp o j f) = false := rfl
theorem xshown_undf  : AV.shown .undf = false := rfl
theorem xshown_junk  : AV.shown .junk = false := rfl
theorem xshown_tup (l : List AV) : AV.shown (.tup l) = false := rfl
attribute [go_sem] avcells_bool avshown_bool avatom_bool dvatom_bool avcells_int avshown_int avatom_int dvatom_int avcells_str avshown_str avatom_str dvatom_str avcells_nilp avshown_nilp avatom_nilp dvatom_nilp avcells_ptr avshown_ptr avatom_ptr dvatom_ptr avcells_lst avshown_lst avatom_lst dvatom_lst avcells_nilm avshown_nilm avatom_nilm dvatom_nilm avcells_map avshown_map avatom_map dvatom_map avcells_fn avshown_fn avatom_fn dvatom_fn avcells_nilf avshown_nilf avatom_nilf dvatom_nilf avcells_ifc avshown_ifc avatom_ifc dvatom_ifc avcells_nili avshown_nili avatom_nili dvatom_nili avcells_agg avshown_agg avatom_agg dvatom_agg xcells_ptr xshown_ptr xatom_ptr xcells_own xshown_own xatom_own xcells_nils xshown_nils xatom_nils xcells_map xshown_map xatom_map xcells_ifc xshown_ifc xatom_ifc xcells_fn xshown_fn xatom_fn xcells_aggA xshown_aggA xatom_aggA xshown_vw xshown_vp xshown_undf xshown_junk xshown_tup
end Go.Abs
namespace Go.Abs
theorem take_next {α : Type} {xs : List α} {i : Nat} {x : α} (h : xs[i]? = some x) : xs.take (i + 1) = xs.take i ++ [x] := by
  rw [List.take_add_one, h]; rfl
theorem bool_ne_of {b : Bool} (h : b = true) : (!b) = false := by rw [h]; rfl
attribute [go_sem] eqAV eqRow eqFlats eqFlat basicT beq_self_eq_true freezes List.map_append if_true if_false reduceIte ite_true
end Go.Abs
namespace Go.Abs
attribute [go_sem] kvIds lookupKey within cellOf setKv setCell growEnt St.setEnt cellPuts cellKills places rowPlaces fillA partOf partsOf buildOut convertOut lends entsOf sameEnts allIn closed callOut1 callOut2 mapPut mapUpdateOut assertOut allocOut nilCheckOut wholeOf makeIfaceOut makeFuncOut makeSliceOut fieldOut normKv setAll
end Go.Abs
namespace Go.Abs
theorem takeMap2 {α β γ : Type} (f : β → γ) (g : α → β) (l : List α) : List.take l.length (List.map f (List.map g l)) = List.map f (List.map g l) := by
  rw [show l.length = (List.map f (List.map g l)).length by simp, List.take_length]
attribute [go_sem] takeMap2
end Go.Abs
namespace Go.Abs
def lstAV (own : Bool) (e : TypeId) (l : List DV) : AV := bif own then .own e l else .dv (.lst l)
theorem lstAV_t (e : TypeId) (l : List DV) : lstAV true e l = .own e l := rfl
theorem lstAV_f (e : TypeId) (l : List DV) : lstAV false e l = .dv (.lst l) := rfl
attribute [go_sem] lstAV_t lstAV_f
end Go.Abs
namespace Go.Abs
theorem zip_get {α β : Type} {a : List α} {b : List β} {i : Nat} {p : α × β} (h : (a.zip b)[i]? = some p) : a[i]? = some p.1 ∧ b[i]? = some p.2 := by
  rw [List.getElem?_zip_eq_some] at h; exact h
end Go.Abs
namespace Go.Abs
theorem modeT : (Region.Mode.any == Region.Mode.text) = false := rfl
theorem modeG : (Region.Mode.any == Region.Mode.gc) = false := rfl
attribute [go_sem] modeT modeG
end Go.Abs
namespace Go.Abs
theorem natOfL (k : Nat) : natOf (no_index (OfNat.ofNat k : Int)) = some k := rfl
attribute [go_sem] natOfL
end Go.Abs
end

section
namespace Go.Abs

/-! ## Closed calls, in pieces -/

section
variable (G : Ctx) (call : CallF) (base nt : Nat) (kept : Nat → List Nat) (k : Nat)

/-- The first n parts of a row of code. -/
def spineRun : Nat → Code → St → Option St
  | 0, _, st => some st
  | n + 1, .seq a b, st => match exec G call base nt kept k a st with
    | some (.norm, st') => spineRun n b st'
    | _ => none
  | _ + 1, _, _ => none
def spineDrop : Nat → Code → Code
  | 0, c => c
  | n + 1, .seq _ b => spineDrop n b
  | _ + 1, c => c
theorem spineRun_exec : ∀ {n : Nat} {c : Code} {st st' : St}, spineRun G call base nt kept k n c st = some st' → exec G call base nt kept k c st = exec G call base nt kept k (spineDrop n c) st'
  | 0, c, st, st', h => by
    simp only [spineRun, Option.some.injEq] at h
    subst h; rfl
  | n + 1, c, st, st', h => by
    cases c with
    | seq a b =>
      simp only [spineRun] at h
      split at h
      · rename_i st1 he
        simp only [exec, he, spineDrop]
        exact spineRun_exec h
      · cases h
    | _ => simp [spineRun] at h
end

/-- n rounds of a loop that goes on. -/
def iterN (body : St → Option (EX × St)) : Nat → St → Option St
  | 0, st => some st
  | n + 1, st => match body st with
    | some (.norm, st') => iterN body n st'
    | _ => none
theorem iterN_loop {body : St → Option (EX × St)} (k : Nat) : ∀ {n : Nat} {st st' : St}, iterN body n st = some st' → loopN body (n + k) st = loopN body k st'
  | 0, st, st', h => by
    simp only [iterN, Option.some.injEq] at h
    subst h; rw [Nat.zero_add]
  | n + 1, st, st', h => by
    rw [show n + 1 + k = (n + k) + 1 by omega]
    simp only [iterN] at h
    split at h
    · rename_i st1 he
      simp only [loopN, he]
      exact iterN_loop k h
    · cases h

mutual
def eqDV : DV → DV → Bool
  | .bool a, .bool b => match a, b with | true, true => true | false, false => true | _, _ => false
  | .int k a, .int l b => kindEq k l && intEq a b
  | .str a, .str b => eqB a b
  | .nilp, .nilp => true
  | .lst a, .lst b => eqDVs a b
  | .nilm, .nilm => true
  | .nilf, .nilf => true
  | .nili, .nili => true
  | .agg a, .agg b => eqDVs a b
  | .ptr a m, .ptr b n => eqDVs a b && Nat.beq m n
  | _, _ => false
def eqDVs : List DV → List DV → Bool
  | [], [] => true
  | a :: l, b :: m => bif eqDV a b then eqDVs l m else false
  | [], _ :: _ => false
  | _ :: _, [] => false
end
theorem kindEq_eq {a b : IntKind} (h : kindEq a b = true) : a = b := by cases a <;> cases b <;> first | rfl | cases h
mutual
theorem eqDV_eq : ∀ {a b : DV}, eqDV a b = true → a = b
  | .bool a, b, h => by cases b <;> simp [eqDV] at h; rename_i b; cases a <;> cases b <;> simp_all
  | .int k a, b, h => by
    cases b <;> simp [eqDV] at h
    rw [kindEq_eq h.1]; have := h.2; rw [intEqE] at this; simp at this; rw [this]
  | .str a, b, h => by cases b <;> simp [eqDV] at h; rw [eqBE] at h; simp at h; rw [h]
  | .nilp, b, h => by cases b <;> simp [eqDV] at h; rfl
  | .lst a, b, h => by cases b <;> simp [eqDV] at h; rw [eqDVs_eq h]
  | .nilm, b, h => by cases b <;> simp [eqDV] at h; rfl
  | .nilf, b, h => by cases b <;> simp [eqDV] at h; rfl
  | .nili, b, h => by cases b <;> simp [eqDV] at h; rfl
  | .agg a, b, h => by cases b <;> simp [eqDV] at h; rw [eqDVs_eq h]
  | .ptr a m, b, h => by
    cases b <;> simp [eqDV] at h
    rw [eqDVs_eq h.1, h.2]
  | .map _, b, h => by cases b <;> simp [eqDV] at h
  | .fn _ _, b, h => by cases b <;> simp [eqDV] at h
  | .ifc _ _, b, h => by cases b <;> simp [eqDV] at h
theorem eqDVs_eq : ∀ {a b : List DV}, eqDVs a b = true → a = b
  | [], b, h => by cases b <;> simp [eqDVs] at h; rfl
  | x :: a, b, h => by
    cases b with
    | nil => simp [eqDVs] at h
    | cons y b =>
      simp only [eqDVs] at h
      cases hxy : eqDV x y with
      | false => simp [hxy] at h
      | true => simp only [hxy, cond_true] at h; rw [eqDV_eq hxy, eqDVs_eq h]
end
/-- These very arguments. -/
def isDVs : List DV → List AV → Bool
  | [], [] => true
  | d :: l, .dv e :: m => bif eqDV d e then isDVs l m else false
  | _, _ => false
theorem isDVs_eq : ∀ {l : List DV} {m : List AV}, isDVs l m = true → m = l.map .dv
  | [], [], _ => rfl
  | [], _ :: _, h => by simp [isDVs] at h
  | d :: l, [], h => by simp [isDVs] at h
  | d :: l, a :: m, h => by
    cases a <;> simp only [isDVs] at h <;> try (cases h; done)
    rename_i e
    cases hd : eqDV d e with
    | false => simp [hd] at h
    | true =>
      simp only [hd, cond_true] at h
      rw [isDVs_eq h, eqDV_eq hd]; rfl
end Go.Abs
end

section
namespace Go.Abs

/-! ## Types with regions, plainly -/

inductive RT where
  | mk (k : Int) (n : ByteArray) (rg : List Int) (el : List RT)

def iD (n : Int) : DV := .int .i64 n
theorem iD_def (n : Int) : iD n = .int .i64 n := rfl

mutual
def RT.dv : RT → DV
  | .mk k n rg el => .agg [.int .i64 k, .str n, .lst (rg.map (DV.int .i64)), .lst (RT.dvs el)]
def RT.dvs : List RT → List DV
  | [] => []
  | t :: r => t.dv :: RT.dvs r
end
theorem RT.dvs_map : ∀ l : List RT, RT.dvs l = l.map RT.dv
  | [] => by simp [RT.dvs]
  | t :: r => by simp [RT.dvs, RT.dvs_map r]
theorem RT.dv_mk (k : Int) (n : ByteArray) (rg : List Int) (el : List RT) : (RT.mk k n rg el).dv = .agg [.int .i64 k, .str n, .lst (rg.map (DV.int .i64)), .lst (el.map RT.dv)] := by
  simp [RT.dv, RT.dvs_map]
def RT.cs : RT → List DV
  | .mk k n rg el => [.int .i64 k, .str n, .lst (rg.map (DV.int .i64)), .lst (el.map RT.dv)]
theorem RT.dv_cells (t : RT) : t.dv.cells = t.cs := by cases t; simp [RT.dv_mk, RT.cs, DV.cells]
theorem RT.cs_len (t : RT) : t.cs.length = 4 := by cases t; rfl
theorem RT.cs_take (t : RT) : t.cs.take 4 = t.cs := by cases t; rfl
theorem RT.agg_cs (t : RT) : DV.agg t.cs = t.dv := by cases t; simp [RT.dv_mk, RT.cs]
theorem RT.cs_atoms (t : RT) : atomsD t.cs = true := by cases t; rfl
def RT.k : RT → Int | .mk k _ _ _ => k
def RT.n : RT → ByteArray | .mk _ n _ _ => n
def RT.rg : RT → List Int | .mk _ _ rg _ => rg
def RT.el : RT → List RT | .mk _ _ _ el => el
theorem RT.eta (t : RT) : RT.mk t.k t.n t.rg t.el = t := by cases t; rfl
theorem RT.av (t : RT) : AV.cells (.dv t.dv) = [.dv (.int .i64 t.k), .dv (.str t.n), .dv (.lst (t.rg.map (DV.int .i64))), .dv (.lst (t.el.map RT.dv))] := by
  cases t; simp [RT.dv_mk, AV.cells, RT.k, RT.n, RT.rg, RT.el]
theorem RT.fold (t : RT) : DV.agg [.int .i64 t.k, .str t.n, .lst (t.rg.map (DV.int .i64)), .lst (t.el.map RT.dv)] = t.dv := by
  cases t; simp [RT.dv_mk, RT.k, RT.n, RT.rg, RT.el]
theorem RT.solid (t : RT) : AV.solid (.dv t.dv) = true := rfl
theorem RT.flat (t : RT) : DV.flat t.dv = false := by cases t; simp [RT.dv_mk, DV.flat, DV.flats]
theorem RT.shown (t : RT) : AV.shown (.dv t.dv) = false := by cases t; simp [RT.dv_mk, AV.shown]
theorem RT.atom (t : RT) : DV.atom t.dv = false := by cases t; simp [RT.dv_mk, DV.atom]
theorem RT.atomA (t : RT) : AV.atom (.dv t.dv) = false := by cases t; simp [RT.dv_mk, AV.atom]
theorem RT.head (l : List RT) : headSize 4 (l.map RT.dv) = true := headSize_map (fun x => by rw [RT.dv_cells, RT.cs_len]) l
theorem RT.atoms (l : List RT) : atomsE (l.map RT.dv) = true := atomsE_map (fun x => by rw [RT.dv_cells, RT.cs_atoms]) l
attribute [go_sem] RT.head RT.atoms
attribute [go_sem high] RT.dv_mk RT.dv_cells RT.cs_len RT.cs_take RT.agg_cs RT.cs_atoms RT.av RT.fold RT.flat RT.shown RT.atom RT.atomA

theorem map_int_inj {a b : List Int} (h : a.map (DV.int .i64) = b.map (DV.int .i64)) : a = b := by
  induction a generalizing b with
  | nil => cases b <;> simp_all
  | cons x a ih => cases b with
    | nil => simp at h
    | cons y b => simp only [List.map_cons, List.cons.injEq, DV.int.injEq, true_and] at h; rw [h.1, ih h.2]
theorem map_str_inj {a b : List ByteArray} (h : a.map DV.str = b.map DV.str) : a = b := by
  induction a generalizing b with
  | nil => cases b <;> simp_all
  | cons x a ih => cases b with
    | nil => simp at h
    | cons y b => simp only [List.map_cons, List.cons.injEq, DV.str.injEq] at h; rw [h.1, ih h.2]

mutual
theorem RT.inj : ∀ {a b : RT}, a.dv = b.dv → a = b
  | .mk k n rg el, .mk k' n' rg' el', h => by
    simp only [RT.dv, DV.agg.injEq, List.cons.injEq, DV.int.injEq, DV.str.injEq, DV.lst.injEq, true_and, and_true] at h
    obtain ⟨h1, h2, h3, h4⟩ := h
    rw [h1, h2, map_int_inj h3, RT.injs h4]
theorem RT.injs : ∀ {a b : List RT}, RT.dvs a = RT.dvs b → a = b
  | [], [], _ => rfl
  | [], _ :: _, h => by simp [RT.dvs] at h
  | _ :: _, [], h => by simp [RT.dvs] at h
  | x :: a, y :: b, h => by
    simp only [RT.dvs, List.cons.injEq] at h
    rw [RT.inj h.1, RT.injs h.2]
end

theorem map_split {α : Type} (l : List α) : l = [] ∨ ∃ x r, l = x :: r ∧ l.length = r.length + 1 := by
  cases l with
  | nil => exact .inl rfl
  | cons x r => exact .inr ⟨x, r, rfl, rfl⟩
def pairD (p : Int × Int) : DV := .agg [.int .i64 p.1, .int .i64 p.2]
theorem RT.dv_inj {a b : RT} : a.dv = b.dv ↔ a = b := ⟨RT.inj, fun h => h ▸ rfl⟩
theorem map_int_iff {a b : List Int} : a.map (DV.int .i64) = b.map (DV.int .i64) ↔ a = b := ⟨map_int_inj, fun h => h ▸ rfl⟩
theorem map_str_iff {a b : List ByteArray} : a.map DV.str = b.map DV.str ↔ a = b := ⟨map_str_inj, fun h => h ▸ rfl⟩
theorem map_dv_iff {a b : List RT} : a.map RT.dv = b.map RT.dv ↔ a = b := ⟨fun h => RT.injs (by simpa [RT.dvs_map] using h), fun h => h ▸ rfl⟩
theorem pairD_inj {a b : Int × Int} : pairD a = pairD b ↔ a = b := by
  constructor
  · intro h
    simp only [pairD, DV.agg.injEq, List.cons.injEq, DV.int.injEq, true_and, and_true] at h
    exact Prod.ext h.1 h.2
  · intro h; rw [h]
theorem map_pair_iff {a b : List (Int × Int)} : a.map pairD = b.map pairD ↔ a = b := by
  constructor
  · intro h
    induction a generalizing b with
    | nil => cases b <;> simp_all
    | cons x a ih => cases b with
      | nil => simp at h
      | cons y b => simp only [List.map_cons, List.cons.injEq, pairD_inj] at h; rw [h.1, ih h.2]
  · intro h; rw [h]
theorem RT.sz' {e t : RT} (h : e ∈ t.el) : SizeOf.sizeOf e < SizeOf.sizeOf t := by
  cases t with
  | mk k n rg el =>
    have := List.sizeOf_lt_of_mem h
    simp only [RT.mk.sizeOf_spec, RT.el] at this ⊢; omega
theorem RT.sz {e : RT} {k n rg el} (h : e ∈ el) : SizeOf.sizeOf e < SizeOf.sizeOf (RT.mk k n rg el) := by
  have := List.sizeOf_lt_of_mem h
  simp only [RT.mk.sizeOf_spec]; omega

def isRef (k : Int) : Bool := decide (k = 4) || decide (k = 5)

/-- A kind: struct, reference, mutable reference, another one. -/
theorem kcases (k : Int) : ((k = 3) = True ∧ (k = 4) = False ∧ (k = 5) = False ∧ isRef k = false) ∨ ((k = 3) = False ∧ (k = 4) = True ∧ (k = 5) = False ∧ isRef k = true) ∨
    ((k = 3) = False ∧ (k = 4) = False ∧ (k = 5) = True ∧ isRef k = true) ∨ ((k = 3) = False ∧ (k = 4) = False ∧ (k = 5) = False ∧ isRef k = false) := by
  by_cases h3 : k = 3
  · subst h3; simp [isRef]
  · by_cases h4 : k = 4
    · subst h4; simp [isRef]
    · by_cases h5 : k = 5
      · subst h5; simp [isRef]
      · simp [isRef, h3, h4, h5]
def RT.deep : Nat → RT → Bool
  | 0, _ => true
  | m + 1, .mk _ _ rg el => decide (2 < el.length) || (decide (70 < rg.length) || el.any (RT.deep m))

def RT.plain : RT → Bool
  | .mk k _ rg [] => !(isRef k && !decide (rg.length = 1) || !isRef k && !decide (k = 3) && !decide (rg.length = 0))
  | .mk k _ rg (e :: l) => !(isRef k && !decide (rg.length = 1) || !isRef k || decide (0 < l.length)) && e.plain

def ownK (k : Int) (rg : List Int) : List Int := bif decide (k = 3) then rg else bif isRef k then rg.take 1 else []

def RT.regs : RT → List Int
  | .mk k _ rg [] => ownK k rg
  | .mk k _ rg (e :: _) => ownK k rg ++ (bif isRef k then e.regs else [])


theorem pairD_eq (p : Int × Int) : pairD p = .agg [.int .i64 p.1, .int .i64 p.2] := rfl
theorem pairD_head (l : List (Int × Int)) : headSize 2 (l.map pairD) = true := headSize_map (fun _ => by rfl) l
theorem pairD_atoms (l : List (Int × Int)) : atomsE (l.map pairD) = true := atomsE_map (fun _ => by rfl) l
attribute [go_sem] pairD_head pairD_atoms
def wellOf (q : List Int) (rg : List Int) : List (Int × Int) := q.flatMap fun x => (rg.take 1).map fun r => (x, r)
def RT.wells : RT → List (Int × Int)
  | .mk _ _ _ [] => []
  | .mk k _ rg (e :: _) => bif isRef k then wellOf e.regs rg ++ e.wells else []

mutual
def RT.same : RT → RT → Bool
  | .mk k n r e, .mk k' n' r' e' => decide (k = k') && (decide (n = n') && (decide (r.length = r'.length) && RT.sames e e'))
def RT.sames : List RT → List RT → Bool
  | [], [] => true
  | a :: r, b :: q => a.same b && RT.sames r q
  | [], _ :: _ => false
  | _ :: _, [] => false
end

theorem RT.same_eq (a b : RT) : a.same b = (decide (a.k = b.k) && (decide (a.n = b.n) && (decide (a.rg.length = b.rg.length) && RT.sames a.el b.el))) := by
  cases a; cases b; simp only [RT.same, RT.k, RT.n, RT.rg, RT.el]; rfl
theorem RT.sames_zip : ∀ a b : List RT, RT.sames a b = (decide (a.length = b.length) && (a.zip b).all fun p => p.1.same p.2)
  | [], [] => by simp [RT.sames]
  | [], _ :: _ => by simp [RT.sames]
  | _ :: _, [] => by simp [RT.sames]
  | x :: a, y :: b => by
    simp only [RT.sames, RT.sames_zip a b, List.zip_cons_cons, List.all_cons, List.length_cons, Nat.add_right_cancel_iff]
    cases x.same y <;> cases decide (a.length = b.length) <;> simp
mutual
theorem RT.same_refl : ∀ a : RT, a.same a = true
  | .mk k n rg el => by simp [RT.same, RT.sames_refl el]
theorem RT.sames_refl : ∀ a : List RT, RT.sames a a = true
  | [] => by simp [RT.sames]
  | x :: a => by simp [RT.sames, RT.same_refl x, RT.sames_refl a]
end
def RT.copy : RT → Bool
  | .mk k _ _ _ => decide (k = 1) || (decide (k = 2) || decide (k = 4))

theorem RT.copy_eq (t : RT) : t.copy = (decide (t.k = 1) || (decide (t.k = 2) || decide (t.k = 4))) := by cases t; rfl
def putR (m : List Int) (x : Int) : Int := bif decide (0 ≤ x) && decide (x < m.length) then m.getD x.toNat 0 else x
mutual
def RT.subst (m : List Int) : RT → RT
  | .mk k n rg el => .mk k n (rg.map (putR m)) (RT.substs m el)
def RT.substs (m : List Int) : List RT → List RT
  | [] => []
  | t :: r => t.subst m :: RT.substs m r
end
theorem RT.substs_map (m : List Int) : ∀ l : List RT, RT.substs m l = l.map (RT.subst m)
  | [] => by simp [RT.substs]
  | t :: r => by simp [RT.substs, RT.substs_map m r]
theorem RT.subst_mk (m : List Int) (k n rg el) : (RT.mk k n rg el).subst m = .mk k n (rg.map (putR m)) (el.map (RT.subst m)) := by
  simp [RT.subst, RT.substs_map]

theorem RT.subst_dv (m : List Int) (t : RT) : (t.subst m).dv = .agg [.int .i64 t.k, .str t.n, .lst ((t.rg.map (putR m)).map (DV.int .i64)), .lst ((t.el.map (RT.subst m)).map RT.dv)] := by
  cases t; simp [RT.subst_mk, RT.dv_mk, RT.k, RT.n, RT.rg, RT.el]
def bothR : List Int → List Int → List (Int × Int)
  | a :: x, b :: y => (a, b) :: (b, a) :: bothR x y
  | _, _ => []
def RT.sub : RT → RT → List (Int × Int)
  | .mk k _ rg (e :: _), .mk _ _ rg' (e' :: _) =>
    bif decide (k = 3) then bothR rg rg' else bif isRef k then (rg.take 1).zip (rg'.take 1) ++ (bif decide (k = 4) then e.sub e' else bothR e.regs e'.regs) else []
  | .mk k _ rg [], .mk _ _ rg' _ => bif decide (k = 3) then bothR rg rg' else bif isRef k then (rg.take 1).zip (rg'.take 1) else []
  | .mk k _ rg (_ :: _), .mk _ _ rg' [] => bif decide (k = 3) then bothR rg rg' else bif isRef k then (rg.take 1).zip (rg'.take 1) else []

theorem RT.sub3 {a b : RT} (h : a.k = 3) : a.sub b = bothR a.rg b.rg := by
  cases a with
  | mk k n rg el => cases b with
    | mk k' n' rg' el' =>
      simp only [RT.k] at h; subst h
      cases el <;> cases el' <;> simp [RT.sub, RT.rg]
theorem RT.subN {a b : RT} (h3 : (a.k = 3) = False) (h : isRef a.k = false) : a.sub b = [] := by
  cases a with
  | mk k n rg el => cases b with
    | mk k' n' rg' el' =>
      simp only [RT.k] at h h3
      cases el <;> cases el' <;> simp [RT.sub, h, h3]
def RT.subE (a : RT) (p : RT × RT) : List (Int × Int) := bif decide (a.k = 4) then p.1.sub p.2 else bothR p.1.regs p.2.regs
theorem RT.subRef {a b : RT} (h3 : (a.k = 3) = False) (h : isRef a.k = true) : a.sub b = (a.rg.take 1).zip (b.rg.take 1) ++ ((a.el.take 1).zip (b.el.take 1)).flatMap a.subE := by
  cases a with
  | mk k n rg el => cases b with
    | mk k' n' rg' el' =>
      simp only [RT.k] at h h3
      cases el <;> cases el' <;> simp [RT.sub, h, h3, RT.rg, RT.el, RT.subE, RT.k]
      rfl
theorem bothR_next {x y : List Int} {i : Nat} {a b : Int} (hx : x[i]? = some a) (hy : y[i]? = some b) : bothR (x.take (i + 1)) (y.take (i + 1)) = bothR (x.take i) (y.take i) ++ [(a, b), (b, a)] := by
  induction i generalizing x y with
  | zero =>
    cases x <;> cases y <;> simp_all [bothR]
  | succ i ih =>
    cases x with
    | nil => simp at hx
    | cons u x => cases y with
      | nil => simp at hy
      | cons v y =>
        simp only [List.take_succ_cons, bothR, List.cons_append]
        rw [ih (by simpa using hx) (by simpa using hy)]
theorem bothR_length (x y : List Int) : (bothR x y).length ≤ 2 * x.length := by
  induction x generalizing y with
  | nil => simp [bothR]
  | cons u x ih => cases y with
    | nil => simp [bothR]
    | cons v y => simp only [bothR, List.length_cons]; have := ih y; omega
theorem RT.same_inv {a b : RT} (h : a.same b = true) : a.k = b.k ∧ a.n = b.n ∧ a.rg.length = b.rg.length ∧ a.el.length = b.el.length ∧ ∀ p ∈ a.el.zip b.el, p.1.same p.2 = true := by
  rw [RT.same_eq, RT.sames_zip] at h
  simp only [Bool.and_eq_true, decide_eq_true_eq, List.all_eq_true] at h
  exact ⟨h.1, h.2.1, h.2.2.1, h.2.2.2.1, h.2.2.2.2⟩
theorem ownK_same {k : Int} {x y : List Int} (h : x.length = y.length) : (ownK k x).length = (ownK k y).length := by
  unfold ownK
  cases decide (k = 3) <;> cases isRef k <;> simp [h]
theorem RT.same_regs : ∀ {a b : RT}, a.same b = true → a.regs.length = b.regs.length
  | .mk k n rg [], .mk k' n' rg' el', h => by
    obtain ⟨h1, h2, h3, h4, _⟩ := RT.same_inv h
    simp only [RT.k, RT.rg, RT.el, List.length_nil] at h1 h3 h4
    subst h1
    have := List.length_eq_zero_iff.1 h4.symm
    subst this
    simp only [RT.regs]; exact ownK_same h3
  | .mk k n rg (e :: l), .mk k' n' rg' [], h => by
    obtain ⟨h1, h2, h3, h4, _⟩ := RT.same_inv h
    simp [RT.el] at h4
  | .mk k n rg (e :: l), .mk k' n' rg' (e' :: l'), h => by
    obtain ⟨h1, h2, h3, h4, h5⟩ := RT.same_inv h
    simp only [RT.k, RT.rg] at h1 h3
    subst h1
    have h6 := RT.same_regs (h5 (e, e') (by simp [RT.el]))
    simp only [RT.regs, List.length_append, ownK_same h3]
    cases isRef k <;> simp [h6]

/-! ### Small ones -/

def RT.Small (t : RT) : Prop := ∃ m, m ≤ 1000 ∧ t.deep m = false
theorem RT.deep_mk {m k n rg el} (h : (RT.mk k n rg el).deep (m + 1) = false) : el.length ≤ 2 ∧ rg.length ≤ 70 ∧ ∀ e ∈ el, e.deep m = false := by
  simp only [RT.deep, Bool.or_eq_false_iff, decide_eq_false_iff_not, List.any_eq_false] at h
  obtain ⟨h1, h2, h3⟩ := h
  exact ⟨by omega, by omega, fun e he => by simpa using h3 e he⟩
theorem RT.Small.inv {k n rg el} (h : (RT.mk k n rg el).Small) : el.length ≤ 2 ∧ rg.length ≤ 70 ∧ ∀ e ∈ el, e.Small := by
  obtain ⟨m, hm, h⟩ := h
  cases m with
  | zero => simp [RT.deep] at h
  | succ m =>
    obtain ⟨h1, h2, h3⟩ := RT.deep_mk h
    exact ⟨h1, h2, fun e he => ⟨m, by omega, h3 e he⟩⟩

theorem RT.Small.inv' {t : RT} (h : t.Small) : t.el.length ≤ 2 ∧ t.rg.length ≤ 70 ∧ ∀ e ∈ t.el, e.Small := by
  cases t; exact h.inv
theorem RT.regs_nil {t : RT} (h : t.el = []) : t.regs = ownK t.k t.rg := by
  cases t; simp only [RT.el] at h; subst h; simp [RT.regs, RT.k, RT.rg]
theorem RT.regs_cons {t e : RT} {l : List RT} (h : t.el = e :: l) : t.regs = ownK t.k t.rg ++ (bif isRef t.k then e.regs else []) := by
  cases t; simp only [RT.el] at h; subst h; simp [RT.regs, RT.k, RT.rg]
theorem ownK_length (k rg) : (ownK k rg).length ≤ rg.length := by
  unfold ownK
  cases decide (k = 3) <;> cases isRef k <;> simp
  exact Nat.min_le_right _ _

theorem RT.regs_deep : ∀ {m : Nat} {t : RT}, t.deep m = false → t.regs.length ≤ 70 * m
  | 0, t, h => by simp [RT.deep] at h
  | m + 1, .mk k n rg [], h => by
    obtain ⟨h1, h2, h3⟩ := RT.deep_mk h
    simp only [RT.regs]
    have := ownK_length k rg
    omega
  | m + 1, .mk k n rg (e :: l), h => by
    obtain ⟨h1, h2, h3⟩ := RT.deep_mk h
    simp only [RT.regs]
    have := ownK_length k rg
    have ih := RT.regs_deep (h3 e (by simp))
    cases isRef k <;> simp <;> omega
theorem RT.Small.regs {t : RT} (h : t.Small) : t.regs.length ≤ 70000 := by
  obtain ⟨m, hm, h⟩ := h
  have := RT.regs_deep h
  omega

theorem RT.wells_nil {t : RT} (h : t.el = []) : t.wells = [] := by
  cases t; simp only [RT.el] at h; subst h; simp [RT.wells]
theorem RT.wells_cons {t e : RT} {l : List RT} (h : t.el = e :: l) : t.wells = bif isRef t.k then wellOf e.regs t.rg ++ e.wells else [] := by
  cases t; simp only [RT.el] at h; subst h; simp [RT.wells, RT.k, RT.rg]
theorem wellOf_nil (rg : List Int) : wellOf [] rg = [] := rfl
theorem wellOf_app (a b : List Int) (rg : List Int) : wellOf (a ++ b) rg = wellOf a rg ++ wellOf b rg := by simp [wellOf]
theorem wellOf_one (x : Int) (rg : List Int) : wellOf [x] rg = (rg.take 1).map fun r => (x, r) := by simp [wellOf]
theorem wellOf_none (q : List Int) : wellOf q [] = [] := by induction q <;> simp_all [wellOf]
theorem RT.plain_nil {t : RT} (h : t.el = []) : t.plain = !(isRef t.k && !decide (t.rg.length = 1) || !isRef t.k && !decide (t.k = 3) && !decide (t.rg.length = 0)) := by
  cases t; simp only [RT.el] at h; subst h; simp only [RT.plain, RT.k, RT.rg]; rfl
theorem RT.plain_cons {t e : RT} {l : List RT} (h : t.el = e :: l) : t.plain = (!(isRef t.k && !decide (t.rg.length = 1) || !isRef t.k || decide (0 < l.length)) && e.plain) := by
  cases t; simp only [RT.el] at h; subst h; simp only [RT.plain, RT.k, RT.rg]; rfl
theorem wellOf_length (q rg) : (wellOf q rg).length ≤ q.length := by
  unfold wellOf
  induction q with
  | nil => simp
  | cons x q ih =>
    simp only [List.flatMap_cons, List.length_append, List.length_map, List.length_take, List.length_cons]
    omega
theorem RT.wells_deep : ∀ {m : Nat} {t : RT}, t.deep m = false → t.wells.length ≤ 70 * m * m
  | 0, t, h => by simp [RT.deep] at h
  | m + 1, .mk k n rg [], h => by simp [RT.wells]
  | m + 1, .mk k n rg (e :: l), h => by
    obtain ⟨h1, h2, h3⟩ := RT.deep_mk h
    simp only [RT.wells]
    have ih := RT.wells_deep (h3 e (by simp))
    have h5 := RT.regs_deep (h3 e (by simp))
    have h6 := wellOf_length e.regs rg
    have : 70 * (m + 1) * (m + 1) = 70 * m * m + 140 * m + 70 := by
      simp only [Nat.mul_add, Nat.add_mul, Nat.mul_one]; omega
    cases isRef k <;> simp <;> omega
theorem RT.Small.wells {t : RT} (h : t.Small) : t.wells.length ≤ 70000000 := by
  obtain ⟨m, hm, h⟩ := h
  have := RT.wells_deep h
  have h2 : 70 * m * m ≤ 70 * 1000 * 1000 := Nat.mul_le_mul (Nat.mul_le_mul (Nat.le_refl _) hm) hm
  omega

theorem RT.sub_deep : ∀ {m : Nat} {a b : RT}, a.deep m = false → (a.sub b).length ≤ 210 * m
  | 0, a, b, h => by simp [RT.deep] at h
  | m + 1, .mk k n rg el, .mk k' n' rg' el', h => by
    obtain ⟨h1, h2, h3⟩ := RT.deep_mk h
    have hb := bothR_length rg rg'
    have hz : ((rg.take 1).zip (rg'.take 1)).length ≤ 1 := by simp only [List.length_zip, List.length_take]; omega
    cases el with
    | nil => simp only [RT.sub]; cases decide (k = 3) <;> cases isRef k <;> simp only [cond_true, cond_false, List.length_nil] <;> omega
    | cons e l => cases el' with
      | nil => simp only [RT.sub]; cases decide (k = 3) <;> cases isRef k <;> simp only [cond_true, cond_false, List.length_nil] <;> omega
      | cons e' l' =>
        have ih := RT.sub_deep (b := e') (h3 e (by simp))
        have hr := RT.regs_deep (h3 e (by simp))
        have hb2 := bothR_length e.regs e'.regs
        simp only [RT.sub]; cases decide (k = 3) <;> cases isRef k <;> cases decide (k = 4) <;> simp only [cond_true, cond_false, List.length_nil, List.length_append] <;> omega
theorem RT.Small.sub {a : RT} (h : a.Small) (b : RT) : (a.sub b).length ≤ 210000 := by
  obtain ⟨m, hm, h⟩ := h
  have := RT.sub_deep (b := b) h
  omega
theorem RT.same_deep : ∀ {m : Nat} {a b : RT}, a.same b = true → a.deep m = b.deep m
  | 0, a, b, h => by simp [RT.deep]
  | m + 1, .mk k n rg el, .mk k' n' rg' el', h => by
    obtain ⟨h1, h2, h3, h4, h5⟩ := RT.same_inv h
    simp only [RT.rg, RT.el] at h3 h4 h5
    simp only [RT.deep, h3, h4]
    congr 2
    clear h1 h2 h3 h
    induction el generalizing el' with
    | nil => cases el' <;> simp_all
    | cons x el ih => cases el' with
      | nil => simp at h4
      | cons y el' =>
        simp only [List.any_cons]
        rw [RT.same_deep (h5 (x, y) (by simp)), ih el' (by simpa using h4) (fun p hp => h5 p (by simp [hp]))]
theorem RT.Small.same {a b : RT} (h : a.Small) (hs : a.same b = true) : b.Small := by
  obtain ⟨m, hm, h⟩ := h
  exact ⟨m, hm, by rw [← RT.same_deep hs, h]⟩
theorem RT.subst_deep (s : List Int) : ∀ {m : Nat} {t : RT}, (t.subst s).deep m = t.deep m
  | 0, t => by simp [RT.deep]
  | m + 1, .mk k n rg el => by
    rw [RT.subst_mk]
    simp only [RT.deep, List.length_map, List.any_map]
    congr 3
    funext e
    simp only [Function.comp]
    exact RT.subst_deep s
theorem RT.Small.subst {t : RT} (h : t.Small) (s : List Int) : (t.subst s).Small := by
  obtain ⟨m, hm, h⟩ := h
  exact ⟨m, hm, by rw [RT.subst_deep, h]⟩
end Go.Abs
end

section
namespace Go.Abs

/-! ## Values of a program's types, plainly -/

theorem list_ofP {α β : Type} {f : α → β} {p : α → Prop} : ∀ {xs : List β}, (∀ x ∈ xs, ∃ a, x = f a ∧ p a) → ∃ l : List α, xs = l.map f ∧ ∀ a ∈ l, p a
  | [], _ => ⟨[], rfl, by simp⟩
  | x :: r, h => by
    obtain ⟨a, rfl, ha⟩ := h x (by simp)
    obtain ⟨l, rfl, hl⟩ := list_ofP (xs := r) fun y hy => h y (by simp [hy])
    exact ⟨a :: l, rfl, by simpa [ha] using hl⟩
theorem has_mem {t : Nat} {l : List Nat} (h : has t l = true) : t ∈ l := by
  induction l with
  | nil => simp [has] at h
  | cons k l ih =>
    simp only [has, beqE] at h
    by_cases e : k = t
    · simp [e]
    · simp only [e, decide_false, cond_false] at h
      simp [ih h]

/-- A type's form. -/
structure IntT (P : Program) (t : TypeId) : Prop where
  u : P.underlying t = some (.int .i64)
structure BoolT (P : Program) (t : TypeId) : Prop where
  u : P.underlying t = some .bool
structure StrT (P : Program) (t : TypeId) : Prop where
  u : P.underlying t = some .string
structure LstT (P : Program) (t e : TypeId) : Prop where
  u : P.underlying t = some (.slice e)
structure StructT (P : Program) (t : TypeId) (n : Nat) (l : List (TypeId × Nat × Nat)) : Prop where
  u : ∃ fs : Array Field, P.underlying t = some (.struct fs) ∧ fs.toList.map (fun f => (f.type, f.offset, P.cellsOf f.type)) = l
  c : P.cellsOf t = n

section
variable {P : Program}
theorem IntT.ty {t : TypeId} (h : IntT P t) {n : Nat} {d : List DV} (k : Ty P n t d) : ∃ i, d = [.int .i64 i] ∧ -9223372036854775808 ≤ i ∧ i ≤ 9223372036854775807 := by
  cases n with
  | zero => exact k.elim
  | succ n =>
    simp only [Ty, h.u] at k
    exact k
theorem BoolT.ty {t : TypeId} (h : BoolT P t) {n : Nat} {d : List DV} (k : Ty P n t d) : ∃ b, d = [.bool b] := by
  cases n with
  | zero => exact k.elim
  | succ n =>
    simp only [Ty, h.u] at k
    exact k
theorem StrT.ty {t : TypeId} (h : StrT P t) {n : Nat} {d : List DV} (k : Ty P n t d) : ∃ s : ByteArray, d = [.str s] ∧ s.size ≤ maxLen := by
  cases n with
  | zero => exact k.elim
  | succ n =>
    simp only [Ty, h.u] at k
    exact k
theorem LstT.ty {t e : TypeId} (h : LstT P t e) {n : Nat} {d : List DV} (k : Ty P (n + 1) t d) : ∃ xs : List (List DV), d = [.lst (xs.map (joinD (aggT P e)))] ∧ xs.length ≤ maxLen ∧ ∀ x ∈ xs, Ty P n e x := by
  simp only [Ty, h.u] at k
  obtain ⟨xs, h1, h2, h3⟩ := k
  exact ⟨xs, h1, h2, fun x hx => (h3 x hx).2⟩
theorem StructT.ty {t : TypeId} {m : Nat} {l : List (TypeId × Nat × Nat)} (h : StructT P t m l) {n : Nat} {d : List DV} (k : Ty P (n + 1) t d) : d.length = m ∧ ∀ p ∈ l, Ty P n p.1 ((d.drop p.2.1).take p.2.2) := by
  obtain ⟨fs, hu, hl⟩ := h.u
  simp only [Ty, hu] at k
  refine ⟨by rw [← h.c]; exact k.1, fun p hp => ?_⟩
  rw [← hl] at hp
  obtain ⟨f, hf, rfl⟩ := List.mem_map.1 hp
  exact k.2 f hf
theorem IntT.agg {t : TypeId} (h : IntT P t) : aggT P t = false := by simp [aggT, h.u, isAggT]
theorem BoolT.agg {t : TypeId} (h : BoolT P t) : aggT P t = false := by simp [aggT, h.u, isAggT]
theorem StrT.agg {t : TypeId} (h : StrT P t) : aggT P t = false := by simp [aggT, h.u, isAggT]
theorem LstT.agg {t e : TypeId} (h : LstT P t e) : aggT P t = false := by simp [aggT, h.u, isAggT]
theorem StructT.agg {t : TypeId} {m : Nat} {l : List (TypeId × Nat × Nat)} (h : StructT P t m l) : aggT P t = true := by
  obtain ⟨fs, hu, _⟩ := h.u
  simp [aggT, hu, isAggT]
theorem ty_pos {t : TypeId} {n : Nat} {d : List DV} (k : Ty P n t d) : ∃ m, n = m + 1 := by
  cases n with
  | zero => exact k.elim
  | succ n => exact ⟨n, rfl⟩

/-- A list of values of one cell. -/
theorem lst_one {t e : TypeId} (h : LstT P t e) (ha : aggT P e = false) {α : Type} {f : α → DV} {p : α → Prop} (hf : ∀ {n : Nat} {x : List DV}, Ty P n e x → ∃ a, x = [f a] ∧ p a) {n : Nat} {d : List DV} (k : Ty P n t d) :
    ∃ l : List α, d = [.lst (l.map f)] ∧ l.length ≤ maxLen ∧ ∀ a ∈ l, p a := by
  obtain ⟨m, rfl⟩ := ty_pos k
  obtain ⟨xs, rfl, hl, hx⟩ := h.ty k
  obtain ⟨l, rfl, hp⟩ : ∃ l : List α, xs = l.map (fun a => [f a]) ∧ ∀ a ∈ l, p a := list_ofP fun x hx' => hf (hx x hx')
  exact ⟨l, by simp [joinD, ha, Function.comp_def], by simpa using hl, hp⟩
/-- A list of structs. -/
theorem lst_agg {t e : TypeId} (h : LstT P t e) (ha : aggT P e = true) {α : Type} {cs : α → List DV} {p : α → Prop} {n : Nat} (hf : ∀ {x : List DV}, Ty P n e x → ∃ a, x = cs a ∧ p a) {d : List DV} (k : Ty P (n + 1) t d) :
    ∃ l : List α, d = [.lst (l.map fun a => .agg (cs a))] ∧ l.length ≤ maxLen ∧ ∀ a ∈ l, p a := by
  obtain ⟨xs, rfl, hl, hx⟩ := h.ty k
  obtain ⟨l, rfl, hp⟩ : ∃ l : List α, xs = l.map cs ∧ ∀ a ∈ l, p a := list_ofP fun x hx' => hf (hx x hx')
  exact ⟨l, by simp [joinD, ha, Function.comp_def], by simpa using hl, hp⟩

def I64 (i : Int) : Prop := -9223372036854775808 ≤ i ∧ i ≤ 9223372036854775807
theorem ints_ty {t e : TypeId} (h : LstT P t e) (he : IntT P e) {n : Nat} {d : List DV} (k : Ty P n t d) : ∃ l : List Int, d = [.lst (l.map (DV.int .i64))] ∧ l.length ≤ maxLen ∧ ∀ i ∈ l, I64 i :=
  lst_one h he.agg (fun k => he.ty k) k
theorem strs_ty {t e : TypeId} (h : LstT P t e) (he : StrT P e) {n : Nat} {d : List DV} (k : Ty P n t d) : ∃ l : List ByteArray, d = [.lst (l.map DV.str)] ∧ l.length ≤ maxLen ∧ ∀ i ∈ l, i.size ≤ maxLen :=
  lst_one h he.agg (fun k => he.ty k) k

theorem RT_ty {tI tS tIs tR tRs : TypeId} (hI : IntT P tI) (hS : StrT P tS) (hIs : LstT P tIs tI) (hRs : LstT P tRs tR) (hR : StructT P tR 4 [(tI, 0, 1), (tS, 1, 1), (tIs, 2, 1), (tRs, 3, 1)]) :
    ∀ (n : Nat) (d : List DV), Ty P n tR d → ∃ t : RT, d = t.cs := by
  intro n
  induction n using Nat.strongRecOn with
  | _ n ih =>
    intro d k
    obtain ⟨m, rfl⟩ := ty_pos k
    obtain ⟨hl, hf⟩ := hR.ty k
    match d, hl with
    | [d0, d1, d2, d3], _ =>
      have h0 := hf (tI, 0, 1) (by simp)
      have h1 := hf (tS, 1, 1) (by simp)
      have h2 := hf (tIs, 2, 1) (by simp)
      have h3 := hf (tRs, 3, 1) (by simp)
      simp only [List.drop, List.take] at h0 h1 h2 h3
      obtain ⟨k0, e0, _⟩ := hI.ty h0
      obtain ⟨k1, e1, _⟩ := hS.ty h1
      obtain ⟨k2, e2, _⟩ := ints_ty hIs hI h2
      obtain ⟨q, rfl⟩ := ty_pos h3
      obtain ⟨k3, e3, _, _⟩ := lst_agg hRs hR.agg (cs := RT.cs) (p := fun _ => True) (fun {x} hx => let ⟨t, ht⟩ := ih q (by omega) x hx; ⟨t, ht, trivial⟩) h3
      simp only [List.cons.injEq, and_true] at e0 e1 e2 e3
      subst e0 e1 e2 e3
      refine ⟨.mk k0 k1 k2 k3, ?_⟩
      have e : (fun a : RT => DV.agg a.cs) = RT.dv := funext RT.agg_cs
      rw [e]; rfl

/-- A parameter's value. -/
theorem tv_one {t : TypeId} (ha : aggT P t = false) {α : Type} {f : α → DV} {p : α → Prop} (hf : ∀ {n : Nat} {x : List DV}, Ty P n t x → ∃ a, x = [f a] ∧ p a) {d : DV} (h : TyV P t d) : ∃ a, d = f a ∧ p a := by
  obtain ⟨n, ds, h1, rfl, _⟩ := h
  obtain ⟨a, rfl, hp⟩ := hf h1
  exact ⟨a, by rw [ha]; rfl, hp⟩
theorem tv_agg {t : TypeId} (ha : aggT P t = true) {α : Type} {cs : α → List DV} {p : α → Prop} (hf : ∀ {n : Nat} {x : List DV}, Ty P n t x → ∃ a, x = cs a ∧ p a) {d : DV} (h : TyV P t d) : ∃ a, d = .agg (cs a) ∧ p a := by
  obtain ⟨n, ds, h1, rfl, _⟩ := h
  obtain ⟨a, rfl, hp⟩ := hf h1
  exact ⟨a, by rw [ha]; rfl, hp⟩
end
end Go.Abs
end

/-
  All that is known of the seat's functions, one behind the other; no condition.
-/
import Derived.Test.YtjgfjfdodekkpaaGreatDoorWalkC
import Derived.Test.YtjgfjfdodekkpaaGreatDoorWalkD
import Derived.Test.YtjgfjfdodekkpaaGreatDoorWalkE
import Derived.Test.YtjgfjfdodekkpaaGreatDoorWalkF
import Derived.Test.YtjgfjfdodekkpaaGreatDoorWalkG
import Derived.Test.YtjgfjfdodekkpaaGreatDoorEvW
set_option linter.all false

section
namespace Go.Abs
open Go.Proofs
set_option maxRecDepth 10000

def s_refers : Spec := { α := Int, A := fun k => ⟨43, [.dv (.int .i64 k)], [], [], 0⟩, r := fun k => (.dv (.bool (isRef k)), []), ids := [43], inIds := fun _ => by simp, fits := fun a b h => by simp only [Q.mk.injEq, List.cons.injEq, AV.dv.injEq, DV.int.injEq, DV.lst.injEq, DV.str.injEq, AV.own.injEq, Prod.mk.injEq, Ent.box.injEq, RT.dv_inj, map_int_iff, map_str_iff, map_dv_iff, map_pair_iff, Int.ofNat_inj, true_and, and_true] at h; simp only [h] }
def s_own : Spec := { α := RT, A := fun t => ⟨36, [.dv t.dv], [], [], 0⟩, r := fun t => (.dv (.lst (t.rg1.map (DV.int .i64))), []), ids := [36], inIds := fun _ => by simp, fits := fun a b h => by simp only [Q.mk.injEq, List.cons.injEq, AV.dv.injEq, DV.int.injEq, DV.lst.injEq, DV.str.injEq, AV.own.injEq, Prod.mk.injEq, Ent.box.injEq, RT.dv_inj, map_int_iff, map_str_iff, map_dv_iff, map_pair_iff, Int.ofNat_inj, true_and, and_true] at h; simp only [h] }
def s_ownR : Spec := { α := RT, A := fun t => ⟨37, [.dv t.dv], [], [], 0⟩, r := fun t => (t.ownAV, []), ids := [37], inIds := fun _ => by simp, fits := fun a b h => by simp only [Q.mk.injEq, List.cons.injEq, AV.dv.injEq, DV.int.injEq, DV.lst.injEq, DV.str.injEq, AV.own.injEq, Prod.mk.injEq, Ent.box.injEq, RT.dv_inj, map_int_iff, map_str_iff, map_dv_iff, map_pair_iff, Int.ofNat_inj, true_and, and_true] at h; simp only [h] }
def s_Copy : Spec := { α := RT, A := fun t => ⟨29, [.dv t.dv], [], [], 0⟩, r := fun t => (.dv (.bool t.copy), []), ids := [29], inIds := fun _ => by simp, fits := fun a b h => by simp only [Q.mk.injEq, List.cons.injEq, AV.dv.injEq, DV.int.injEq, DV.lst.injEq, DV.str.injEq, AV.own.injEq, Prod.mk.injEq, Ent.box.injEq, RT.dv_inj, map_int_iff, map_str_iff, map_dv_iff, map_pair_iff, Int.ofNat_inj, true_and, and_true] at h; simp only [h] }
def s_CopyR : Spec := { α := RT, A := fun t => ⟨30, [.dv t.dv], [], [], 0⟩, r := fun t => (.dv (.bool t.copy), []), ids := [30], inIds := fun _ => by simp, fits := fun a b h => by simp only [Q.mk.injEq, List.cons.injEq, AV.dv.injEq, DV.int.injEq, DV.lst.injEq, DV.str.injEq, AV.own.injEq, Prod.mk.injEq, Ent.box.injEq, RT.dv_inj, map_int_iff, map_str_iff, map_dv_iff, map_pair_iff, Int.ofNat_inj, true_and, and_true] at h; simp only [h] }
def s_Deep : Spec := { α := { p : Nat × RT // p.1 ≤ 1000 }, A := fun p => ⟨10, [.dv p.1.2.dv, .dv (.int .i64 (p.1.1 : Nat))], [], [], 0⟩, r := fun p => (.dv (.bool (p.1.2.deep p.1.1)), []), ids := [10], inIds := fun _ => by simp, fits := fun a b h => by simp only [Q.mk.injEq, List.cons.injEq, AV.dv.injEq, DV.int.injEq, DV.lst.injEq, DV.str.injEq, AV.own.injEq, Prod.mk.injEq, Ent.box.injEq, RT.dv_inj, map_int_iff, map_str_iff, map_dv_iff, map_pair_iff, Int.ofNat_inj, true_and, and_true] at h; simp only [h] }
def s_plain : Spec := { α := RT, A := fun t => ⟨11, [.dv t.dv], [], [], 0⟩, r := fun t => (.dv (.bool t.plain), []), ids := [11], inIds := fun _ => by simp, fits := fun a b h => by simp only [Q.mk.injEq, List.cons.injEq, AV.dv.injEq, DV.int.injEq, DV.lst.injEq, DV.str.injEq, AV.own.injEq, Prod.mk.injEq, Ent.box.injEq, RT.dv_inj, map_int_iff, map_str_iff, map_dv_iff, map_pair_iff, Int.ofNat_inj, true_and, and_true] at h; simp only [h] }
def s_Regions : Spec := { α := { t : RT // t.Small }, A := fun t => ⟨26, [.dv t.1.dv], [], [], 0⟩, r := fun t => (.dv (.lst (t.1.regs.map (DV.int .i64))), []), ids := [26], inIds := fun _ => by simp, fits := fun a b h => by simp only [Q.mk.injEq, List.cons.injEq, AV.dv.injEq, DV.int.injEq, DV.lst.injEq, DV.str.injEq, AV.own.injEq, Prod.mk.injEq, Ent.box.injEq, RT.dv_inj, map_int_iff, map_str_iff, map_dv_iff, map_pair_iff, Int.ofNat_inj, true_and, and_true] at h; simp only [h] }
def s_RegionsR : Spec := { α := { t : RT // t.Small }, A := fun t => ⟨14, [.dv t.1.dv], [], [], 0⟩, r := fun t => (.dv (.lst (t.1.regs.map (DV.int .i64))), []), ids := [14], inIds := fun _ => by simp, fits := fun a b h => by simp only [Q.mk.injEq, List.cons.injEq, AV.dv.injEq, DV.int.injEq, DV.lst.injEq, DV.str.injEq, AV.own.injEq, Prod.mk.injEq, Ent.box.injEq, RT.dv_inj, map_int_iff, map_str_iff, map_dv_iff, map_pair_iff, Int.ofNat_inj, true_and, and_true] at h; simp only [h] }
def s_Well : Spec := { α := { t : RT // t.Small }, A := fun t => ⟨13, [.dv t.1.dv], [], [], 0⟩, r := fun t => (lstAV t.1.wellO 32 (t.1.wells.map pairD), []), ids := [13], inIds := fun _ => by simp, fits := fun a b h => by simp only [Q.mk.injEq, List.cons.injEq, AV.dv.injEq, DV.int.injEq, DV.lst.injEq, DV.str.injEq, AV.own.injEq, Prod.mk.injEq, Ent.box.injEq, RT.dv_inj, map_int_iff, map_str_iff, map_dv_iff, map_pair_iff, Int.ofNat_inj, true_and, and_true] at h; simp only [h] }
def s_WellR : Spec := { α := { t : RT // t.Small }, A := fun t => ⟨34, [.dv t.1.dv], [], [], 0⟩, r := fun t => (lstAV t.1.wellOR 32 (t.1.wells.map pairD), []), ids := [34], inIds := fun _ => by simp, fits := fun a b h => by simp only [Q.mk.injEq, List.cons.injEq, AV.dv.injEq, DV.int.injEq, DV.lst.injEq, DV.str.injEq, AV.own.injEq, Prod.mk.injEq, Ent.box.injEq, RT.dv_inj, map_int_iff, map_str_iff, map_dv_iff, map_pair_iff, Int.ofNat_inj, true_and, and_true] at h; simp only [h] }
def s_Same : Spec where
  α := { p : RT × RT // p.1.Small } ⊕ { p : List RT × List RT // p.1.length ≤ maxLen ∧ ∀ x ∈ p.1, x.Small }
  A := fun
    | .inl p => ⟨27, [.dv p.1.1.dv, .dv p.1.2.dv], [], [], 0⟩
    | .inr p => ⟨50, [.dv (.lst (p.1.1.map RT.dv)), .dv (.lst (p.1.2.map RT.dv)), .dv (.fn 27 [])], [], [], 0⟩
  r := fun
    | .inl p => (.dv (.bool (p.1.1.same p.1.2)), [])
    | .inr p => (.dv (.bool (RT.sames p.1.1 p.1.2)), [])
  ids := [27, 50]
  inIds := fun a => by cases a <;> simp
  fits := fun a b h => by
    cases a <;> cases b <;> simp only [Q.mk.injEq, List.cons.injEq, AV.dv.injEq, DV.lst.injEq, RT.dv_inj, map_dv_iff, true_and, and_true, reduceCtorEq, Nat.reduceEqDiff, false_and] at h <;> first | simp only [h] | (exact absurd h.1 (by decide))
def s_SameR : Spec := { α := { p : RT × RT // p.1.Small }, A := fun p => ⟨28, [.dv p.1.1.dv, .dv p.1.2.dv], [], [], 0⟩, r := fun p => (.dv (.bool (p.1.1.same p.1.2)), []), ids := [28], inIds := fun _ => by simp, fits := fun a b h => by simp only [Q.mk.injEq, List.cons.injEq, AV.dv.injEq, DV.int.injEq, DV.lst.injEq, DV.str.injEq, AV.own.injEq, Prod.mk.injEq, Ent.box.injEq, RT.dv_inj, map_int_iff, map_str_iff, map_dv_iff, map_pair_iff, Int.ofNat_inj, true_and, and_true] at h; simp only [h] }
def s_Subst : Spec := { α := { p : RT × List Int // p.1.Small }, A := fun p => ⟨23, [.dv p.1.1.dv, .dv (.lst (p.1.2.map (DV.int .i64)))], [], [], 0⟩, r := fun p => (.dv (p.1.1.subst p.1.2).dv, []), ids := [23], inIds := fun _ => by simp, fits := fun a b h => by simp only [Q.mk.injEq, List.cons.injEq, AV.dv.injEq, DV.int.injEq, DV.lst.injEq, DV.str.injEq, AV.own.injEq, Prod.mk.injEq, Ent.box.injEq, RT.dv_inj, map_int_iff, map_str_iff, map_dv_iff, map_pair_iff, Int.ofNat_inj, true_and, and_true] at h; simp only [h] }
def s_SubstR : Spec := { α := { p : RT × List Int // p.1.Small }, A := fun p => ⟨20, [.dv p.1.1.dv, .dv (.lst (p.1.2.map (DV.int .i64)))], [], [], 0⟩, r := fun p => (.dv (p.1.1.subst p.1.2).dv, []), ids := [20], inIds := fun _ => by simp, fits := fun a b h => by simp only [Q.mk.injEq, List.cons.injEq, AV.dv.injEq, DV.int.injEq, DV.lst.injEq, DV.str.injEq, AV.own.injEq, Prod.mk.injEq, Ent.box.injEq, RT.dv_inj, map_int_iff, map_str_iff, map_dv_iff, map_pair_iff, Int.ofNat_inj, true_and, and_true] at h; simp only [h] }
def s_Exact : Spec := { α := { t : RT // t.Small }, A := fun t => ⟨19, [.dv t.1.dv, .dv t.1.dv], [], [], 0⟩, r := fun _ => (.dv (.bool true), []), ids := [19], inIds := fun _ => by simp, fits := fun _ _ _ => rfl }
def s_Ints : Spec := { α := { l : List Int // l.length ≤ maxLen }, A := fun l => ⟨25, [.dv (.lst (l.1.map (DV.int .i64))), .dv (.lst (l.1.map (DV.int .i64)))], [], [], 0⟩, r := fun _ => (.dv (.bool true), []), ids := [25], inIds := fun _ => by simp, fits := fun _ _ _ => rfl }
def s_Pairs : Spec := { α := { l : List (Int × Int) // l.length ≤ maxLen }, A := fun l => ⟨31, [.dv (.lst (l.1.map pairD)), .dv (.lst (l.1.map pairD))], [], [], 0⟩, r := fun _ => (.dv (.bool true), []), ids := [31], inIds := fun _ => by simp, fits := fun _ _ _ => rfl }
def s_both : Spec := { α := { p : List (Int × Int) × List Int × List Int // p.2.1.length = p.2.2.length ∧ p.2.1.length ≤ 100000 ∧ p.1.length ≤ 1000 }, A := fun p => ⟨70, [.dv (.lst (p.1.2.1.map (DV.int .i64))), .dv (.lst (p.1.2.2.map (DV.int .i64))), .ptr 5 0], [(5, .box [.own 32 (p.1.1.map pairD)])], [], 83⟩, r := fun p => (.tup [], [(5, .box [.own 32 ((p.1.1 ++ bothR p.1.2.1 p.1.2.2).map pairD)])]), ids := [70], inIds := fun _ => by simp, fits := fun a b h => by simp only [Q.mk.injEq, List.cons.injEq, AV.dv.injEq, DV.int.injEq, DV.lst.injEq, DV.str.injEq, AV.own.injEq, Prod.mk.injEq, Ent.box.injEq, RT.dv_inj, map_int_iff, map_str_iff, map_dv_iff, map_pair_iff, Int.ofNat_inj, true_and, and_true] at h; simp only [h] }
def s_sub : Spec := { α := { p : RT × RT // p.1.same p.2 = true ∧ p.1.Small }, A := fun p => ⟨51, [.dv p.1.1.dv, .dv p.1.2.dv], [], [], 0⟩, r := fun p => (.dv (.lst ((p.1.1.sub p.1.2).map pairD)), []), ids := [51], inIds := fun _ => by simp, fits := fun a b h => by simp only [Q.mk.injEq, List.cons.injEq, AV.dv.injEq, DV.int.injEq, DV.lst.injEq, DV.str.injEq, AV.own.injEq, Prod.mk.injEq, Ent.box.injEq, RT.dv_inj, map_int_iff, map_str_iff, map_dv_iff, map_pair_iff, Int.ofNat_inj, true_and, and_true] at h; simp only [h] }
def s_Sub : Spec := { α := { p : RT × RT // p.1.Small }, A := fun p => ⟨32, [.dv p.1.1.dv, .dv p.1.2.dv], [], [], 0⟩, r := fun p => (lstAV (!p.1.1.same p.1.2) 32 ((p.1.1.subS p.1.2).map pairD), []), ids := [32], inIds := fun _ => by simp, fits := fun a b h => by simp only [Q.mk.injEq, List.cons.injEq, AV.dv.injEq, DV.int.injEq, DV.lst.injEq, DV.str.injEq, AV.own.injEq, Prod.mk.injEq, Ent.box.injEq, RT.dv_inj, map_int_iff, map_str_iff, map_dv_iff, map_pair_iff, Int.ofNat_inj, true_and, and_true] at h; simp only [h] }
def s_SubR : Spec := { α := { p : RT × RT // p.1.Small }, A := fun p => ⟨33, [.dv p.1.1.dv, .dv p.1.2.dv], [], [], 0⟩, r := fun p => (lstAV (p.1.1.subOR p.1.2) 32 ((p.1.1.subS p.1.2).map pairD), []), ids := [33], inIds := fun _ => by simp, fits := fun a b h => by simp only [Q.mk.injEq, List.cons.injEq, AV.dv.injEq, DV.int.injEq, DV.lst.injEq, DV.str.injEq, AV.own.injEq, Prod.mk.injEq, Ent.box.injEq, RT.dv_inj, map_int_iff, map_str_iff, map_dv_iff, map_pair_iff, Int.ofNat_inj, true_and, and_true] at h; simp only [h] }
def s_told : Spec := { α := Unit, A := fun _ => ⟨12, [], [], [], 0⟩, r := fun _ => (.dv (.bool true), []), ids := [12], inIds := fun _ => by simp, fits := fun _ _ _ => rfl }

def L1 : List Spec := [s_CopyR, s_Copy, s_ownR, s_own, s_refers, s_told]
def L2 : List Spec := s_Deep :: L1
def L3 : List Spec := s_plain :: L2
def L4 : List Spec := s_Regions :: L3
def L5 : List Spec := s_RegionsR :: L4
def L6 : List Spec := s_Well :: L5
def L7 : List Spec := s_WellR :: L6
def L8 : List Spec := s_Same :: L7
def L9 : List Spec := s_SameR :: L8
def L10 : List Spec := s_Subst :: L9
def L11 : List Spec := s_SubstR :: L10
def L12 : List Spec := s_Exact :: L11
def L13 : List Spec := s_Ints :: L12
def L14 : List Spec := s_Pairs :: L13
def L15 : List Spec := s_both :: L14
def L16 : List Spec := s_sub :: L15
def L17 : List Spec := s_Sub :: L16
def L18 : List Spec := s_SubR :: L17

noncomputable def szRT (t : RT) : Nat := SizeOf.sizeOf t
attribute [local irreducible] callStep callN reg
theorem ok1 : CallsOK TryzG Tryz.prog TryzGl (reg L1) := by
  have h0 : CallsOK TryzG Tryz.prog TryzGl (reg [s_told]) := reg_add reg_nil fun _ => ⟨_, TryzG_calls OX14_ok 199, told14⟩
  have h1 := reg_one TryzG_prims TryzG_ties (s := s_refers) h0 (by kernel_rfl) fun c _ a => ⟨0, w_refers c a 0⟩
  have h2 := reg_one TryzG_prims TryzG_ties (s := s_own) h1 (by kernel_rfl) fun c _ a => ⟨0, w_own c a 0⟩
  have h3 := reg_one TryzG_prims TryzG_ties (s := s_ownR) h2 (by kernel_rfl) fun c _ a => ⟨0, w_ownR c a 0⟩
  have h4 := reg_one TryzG_prims TryzG_ties (s := s_Copy) h3 (by kernel_rfl) fun c _ a => ⟨0, w_Copy c a 0⟩
  exact reg_one TryzG_prims TryzG_ties (s := s_CopyR) h4 (by kernel_rfl) fun c _ a => ⟨0, w_CopyR c a 0⟩
theorem ok2 : CallsOK TryzG Tryz.prog TryzGl (reg L2) := reg_rec TryzG_prims TryzG_ties (s := s_Deep) ok1 (by kernel_rfl) (fun p => p.1.1) fun c hc p ih => by
  obtain ⟨⟨m, t⟩, hm⟩ := p
  cases m with
  | zero => exact ⟨0, w_Deep0 c t 0⟩
  | succ m => exact w_Deep1 c m (by omega) (fun t => ih ⟨(m, t), by omega⟩ (Nat.lt_succ_self m)) t
theorem ok3 : CallsOK TryzG Tryz.prog TryzGl (reg L3) := reg_rec TryzG_prims TryzG_ties (s := s_plain) ok2 (by kernel_rfl) szRT fun c hc t ih => ⟨0, w_plain c t (fun e he => ih e he) 0⟩
theorem ok4 : CallsOK TryzG Tryz.prog TryzGl (reg L4) := reg_rec TryzG_prims TryzG_ties (s := s_Regions) ok3 (by kernel_rfl) (fun t => SizeOf.sizeOf t.1) fun c hc t ih => ⟨0, w_Regions c (fun k => hc s_refers (by simp only [L18, L17, L16, L15, L14, L13, L12, L11, L10, L9, L8, L7, L6, L5, L4, L3, L2, L1, List.mem_cons, eq_self, true_or, or_true]) k) (fun t => hc s_own (by simp only [L18, L17, L16, L15, L14, L13, L12, L11, L10, L9, L8, L7, L6, L5, L4, L3, L2, L1, List.mem_cons, eq_self, true_or, or_true]) t) t.1 t.2 (fun e he hs => ih ⟨e, hs⟩ he) 0⟩
theorem ok5 : CallsOK TryzG Tryz.prog TryzGl (reg L5) := reg_rec TryzG_prims TryzG_ties (s := s_RegionsR) ok4 (by kernel_rfl) (fun t => SizeOf.sizeOf t.1) fun c hc t ih => ⟨0, w_RegionsR c (fun t => hc s_ownR (by simp only [L18, L17, L16, L15, L14, L13, L12, L11, L10, L9, L8, L7, L6, L5, L4, L3, L2, L1, List.mem_cons, eq_self, true_or, or_true]) t) t.1 t.2 (fun e he hs => ih ⟨e, hs⟩ he) 0⟩
theorem ok6 : CallsOK TryzG Tryz.prog TryzGl (reg L6) := reg_rec TryzG_prims TryzG_ties (s := s_Well) ok5 (by kernel_rfl) (fun t => SizeOf.sizeOf t.1) fun c hc t ih => ⟨_, w_Well c t.1 t.2 (hc s_own (by simp only [L18, L17, L16, L15, L14, L13, L12, L11, L10, L9, L8, L7, L6, L5, L4, L3, L2, L1, List.mem_cons, eq_self, true_or, or_true]) t.1) (fun e he => hc s_Regions (by simp only [L18, L17, L16, L15, L14, L13, L12, L11, L10, L9, L8, L7, L6, L5, L4, L3, L2, L1, List.mem_cons, eq_self, true_or, or_true]) ⟨e, t.2.inv'.2.2 e he⟩) (fun e he hs => ih ⟨e, hs⟩ he)⟩
theorem ok7 : CallsOK TryzG Tryz.prog TryzGl (reg L7) := reg_rec TryzG_prims TryzG_ties (s := s_WellR) ok6 (by kernel_rfl) (fun t => SizeOf.sizeOf t.1) fun c hc t ih => ⟨_, w_WellR c t.1 t.2 (fun e he => hc s_RegionsR (by simp only [L18, L17, L16, L15, L14, L13, L12, L11, L10, L9, L8, L7, L6, L5, L4, L3, L2, L1, List.mem_cons, eq_self, true_or, or_true]) ⟨e, t.2.inv'.2.2 e he⟩) (fun e he hs => ih ⟨e, hs⟩ he)⟩
theorem small_len {t : RT} (h : t.Small) : t.el.length ≤ maxLen := Nat.le_trans h.inv'.1 (by decide)
theorem small_rlen {t : RT} (h : t.Small) : t.rg.length ≤ maxLen := Nat.le_trans h.inv'.2.1 (by decide)
theorem ok8 : CallsOK TryzG Tryz.prog TryzGl (reg L8) := reg_rec TryzG_prims TryzG_ties (s := s_Same) ok7 (by kernel_rfl) (fun | .inl p => SizeOf.sizeOf p.1.1 | .inr p => SizeOf.sizeOf p.1.1) fun c hc p ih => by
  rcases p with ⟨⟨a, b⟩, ha⟩ | ⟨⟨xs, ys⟩, hl, hx⟩
  · refine ⟨0, w_Same c a b (ih (.inr ⟨(a.el, b.el), small_len ha, fun x hx => ha.inv'.2.2 x hx⟩) ?_) 0⟩
    cases a with
    | mk k n rg el => simp only [RT.el, RT.mk.sizeOf_spec]; omega
  · exact ⟨_, w_EqualFunc c xs ys hl fun x hx' y _ => ih (.inl ⟨(x, y), hx x hx'⟩) (List.sizeOf_lt_of_mem hx')⟩
theorem ok9 : CallsOK TryzG Tryz.prog TryzGl (reg L9) := reg_rec TryzG_prims TryzG_ties (s := s_SameR) ok8 (by kernel_rfl) (fun p => SizeOf.sizeOf p.1.1) fun c hc p ih => ⟨_, w_SameR c p.1.1 p.1.2 (small_len p.2) fun x hx y _ => ih ⟨(x, y), p.2.inv'.2.2 x hx⟩ (RT.sz' hx)⟩
theorem ok10 : CallsOK TryzG Tryz.prog TryzGl (reg L10) := reg_rec TryzG_prims TryzG_ties (s := s_Subst) ok9 (by kernel_rfl) (fun p => SizeOf.sizeOf p.1.1) fun c hc p ih => ⟨_, w_Subst c p.1.1 p.2 p.1.2 fun e he hs => ih ⟨(e, p.1.2), hs⟩ he⟩
theorem ok11 : CallsOK TryzG Tryz.prog TryzGl (reg L11) := reg_rec TryzG_prims TryzG_ties (s := s_SubstR) ok10 (by kernel_rfl) (fun p => SizeOf.sizeOf p.1.1) fun c hc p ih => ⟨_, w_SubstR c p.1.1 p.2 p.1.2 fun e he hs => ih ⟨(e, p.1.2), hs⟩ he⟩
theorem ok12 : CallsOK TryzG Tryz.prog TryzGl (reg L12) := reg_rec TryzG_prims TryzG_ties (s := s_Exact) ok11 (by kernel_rfl) (fun t => SizeOf.sizeOf t.1) fun c hc t ih => ⟨_, w_Exact c t.1 (small_rlen t.2) (small_len t.2) (hc s_SameR (by simp only [L18, L17, L16, L15, L14, L13, L12, L11, L10, L9, L8, L7, L6, L5, L4, L3, L2, L1, List.mem_cons, eq_self, true_or, or_true]) ⟨(t.1, t.1), t.2⟩) fun e he => ih ⟨e, t.2.inv'.2.2 e he⟩ (RT.sz' he)⟩
theorem ok13 : CallsOK TryzG Tryz.prog TryzGl (reg L13) := reg_one TryzG_prims TryzG_ties (s := s_Ints) ok12 (by kernel_rfl) fun c _ l => ⟨_, w_Ints c l.1 l.2⟩
theorem ok14 : CallsOK TryzG Tryz.prog TryzGl (reg L14) := reg_one TryzG_prims TryzG_ties (s := s_Pairs) ok13 (by kernel_rfl) fun c _ l => ⟨_, w_Pairs c l.1 l.2⟩
theorem ok15 : CallsOK TryzG Tryz.prog TryzGl (reg L15) := reg_one TryzG_prims TryzG_ties (s := s_both) ok14 (by kernel_rfl) fun c _ p => ⟨_, w_both c p.1.1 p.1.2.1 p.1.2.2 p.2.1 p.2.2.1 p.2.2.2⟩
theorem ok16 : CallsOK TryzG Tryz.prog TryzGl (reg L16) := reg_rec TryzG_prims TryzG_ties (s := s_sub) ok15 (by kernel_rfl) (fun p => SizeOf.sizeOf p.1.1) fun c hc p ih => ⟨_, w_sub c p.1.1 p.1.2 p.2.1 p.2.2 (hc s_own (by simp only [L18, L17, L16, L15, L14, L13, L12, L11, L10, L9, L8, L7, L6, L5, L4, L3, L2, L1, List.mem_cons, eq_self, true_or, or_true]) p.1.1) (fun e hs => hc s_Regions (by simp only [L18, L17, L16, L15, L14, L13, L12, L11, L10, L9, L8, L7, L6, L5, L4, L3, L2, L1, List.mem_cons, eq_self, true_or, or_true]) ⟨e, hs⟩) (fun acc x y h1 h2 h3 => hc s_both (by simp only [L18, L17, L16, L15, L14, L13, L12, L11, L10, L9, L8, L7, L6, L5, L4, L3, L2, L1, List.mem_cons, eq_self, true_or, or_true]) ⟨(acc, x, y), h1, h2, h3⟩) (fun x y h1 h2 h3 => ih ⟨(x, y), h3, h2⟩ h1)⟩
theorem ok17 : CallsOK TryzG Tryz.prog TryzGl (reg L17) := reg_one TryzG_prims TryzG_ties (s := s_Sub) ok16 (by kernel_rfl) fun c hc p => ⟨_, w_SubT c p.1.1 p.1.2 (hc s_Same (by simp only [L18, L17, L16, L15, L14, L13, L12, L11, L10, L9, L8, L7, L6, L5, L4, L3, L2, L1, List.mem_cons, eq_self, true_or, or_true]) (.inl p)) (fun h => hc s_sub (by simp only [L18, L17, L16, L15, L14, L13, L12, L11, L10, L9, L8, L7, L6, L5, L4, L3, L2, L1, List.mem_cons, eq_self, true_or, or_true]) ⟨p.1, h, p.2⟩) 0⟩
theorem ok18 : CallsOK TryzG Tryz.prog TryzGl (reg L18) := reg_rec TryzG_prims TryzG_ties (s := s_SubR) ok17 (by kernel_rfl) (fun p => SizeOf.sizeOf p.1.1) fun c hc p ih => ⟨_, w_SubR c p.1.1 p.1.2 p.2 (hc s_SameR (by simp only [L18, L17, L16, L15, L14, L13, L12, L11, L10, L9, L8, L7, L6, L5, L4, L3, L2, L1, List.mem_cons, eq_self, true_or, or_true]) p) (fun t => hc s_ownR (by simp only [L18, L17, L16, L15, L14, L13, L12, L11, L10, L9, L8, L7, L6, L5, L4, L3, L2, L1, List.mem_cons, eq_self, true_or, or_true]) t) (fun e hs => hc s_RegionsR (by simp only [L18, L17, L16, L15, L14, L13, L12, L11, L10, L9, L8, L7, L6, L5, L4, L3, L2, L1, List.mem_cons, eq_self, true_or, or_true]) ⟨e, hs⟩) (fun x y h1 h2 => ih ⟨(x, y), h2⟩ h1)⟩

theorem run_Sub (t u : RT) (m : List Int) : ∃ call tb, CallsOK TryzG Tryz.prog TryzGl call ∧ call 6 [.dv t.dv, .dv u.dv, .dv (.lst (m.map (DV.int .i64)))] [] [] 0 = some (.dv (.bool true), tb) :=
  run_of TryzG_prims TryzG_ties ok18 (by kernel_rfl) fun c K => ⟨100, law_Sub c t u m (fun t => K s_Deep (by simp only [L18, L17, L16, L15, L14, L13, L12, L11, L10, L9, L8, L7, L6, L5, L4, L3, L2, L1, List.mem_cons, eq_self, true_or, or_true]) ⟨(60, t), by omega⟩) (K s_told (by simp only [L18, L17, L16, L15, L14, L13, L12, L11, L10, L9, L8, L7, L6, L5, L4, L3, L2, L1, List.mem_cons, eq_self, true_or, or_true]) ()) (fun t hs => K s_SubstR (by simp only [L18, L17, L16, L15, L14, L13, L12, L11, L10, L9, L8, L7, L6, L5, L4, L3, L2, L1, List.mem_cons, eq_self, true_or, or_true]) ⟨(t, m), hs⟩) (fun a b hs => K s_Sub (by simp only [L18, L17, L16, L15, L14, L13, L12, L11, L10, L9, L8, L7, L6, L5, L4, L3, L2, L1, List.mem_cons, eq_self, true_or, or_true]) ⟨(a, b), hs⟩)
    (fun a b hs => K s_SubR (by simp only [L18, L17, L16, L15, L14, L13, L12, L11, L10, L9, L8, L7, L6, L5, L4, L3, L2, L1, List.mem_cons, eq_self, true_or, or_true]) ⟨(a, b), hs⟩) (fun l hl => K s_Pairs (by simp only [L18, L17, L16, L15, L14, L13, L12, L11, L10, L9, L8, L7, L6, L5, L4, L3, L2, L1, List.mem_cons, eq_self, true_or, or_true]) ⟨l, hl⟩) (fun t hs => K s_Well (by simp only [L18, L17, L16, L15, L14, L13, L12, L11, L10, L9, L8, L7, L6, L5, L4, L3, L2, L1, List.mem_cons, eq_self, true_or, or_true]) ⟨t, hs⟩) (fun t hs => K s_WellR (by simp only [L18, L17, L16, L15, L14, L13, L12, L11, L10, L9, L8, L7, L6, L5, L4, L3, L2, L1, List.mem_cons, eq_self, true_or, or_true]) ⟨t, hs⟩)⟩
end Go.Abs
end

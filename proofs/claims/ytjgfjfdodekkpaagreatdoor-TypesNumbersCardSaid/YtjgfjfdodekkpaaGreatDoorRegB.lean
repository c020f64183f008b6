/-
  More that is known of the seat's functions; no condition.
-/
import Derived.Test.YtjgfjfdodekkpaaGreatDoorReg
import Derived.Test.YtjgfjfdodekkpaaGreatDoorWalkH
import Derived.Test.YtjgfjfdodekkpaaGreatDoorWalkI
set_option linter.all false

section
namespace Go.Abs
open Go.Proofs
set_option maxRecDepth 10000

def s_follows : Spec := { α := { x : List (Int × Int) × Int × Int // x.1.length ≤ 1000000 ∧ ∃ q, (x.2.1, q) ∈ x.1 ∧ (q, x.2.2) ∈ x.1 }, A := fun x => ⟨35, [.dv (.lst (x.1.1.map pairD)), .dv (pairD x.1.2)], [], [], 0⟩, r := fun _ => (.dv (.bool true), []), ids := [35], inIds := fun _ => by simp, fits := fun _ _ _ => rfl }
def L19 : List Spec := s_follows :: L18
attribute [local irreducible] callStep callN reg
theorem ok19 : CallsOK TryzG Tryz.prog TryzGl (reg L19) := reg_one TryzG_prims TryzG_ties (s := s_follows) ok18 (by kernel_rfl) fun c _ x => let ⟨_, h1, h2⟩ := x.2.2; ⟨_, w_follows c x.1.1 x.1.2 x.2.1 h1 h2⟩
theorem run_Well (t : RT) : ∃ call tb, CallsOK TryzG Tryz.prog TryzGl call ∧ call 3 [.dv t.dv] [] [] 0 = some (.dv (.bool true), tb) :=
  run_of TryzG_prims TryzG_ties ok19 (by kernel_rfl) fun c K => by
    cases h1 : t.deep 20 with
    | true => exact ⟨_, law_Well c t (fun t => K s_Deep (by simp only [L19, L18, L17, L16, L15, L14, L13, L12, L11, L10, L9, L8, L7, L6, L5, L4, L3, L2, L1, List.mem_cons, eq_self, true_or, or_true]) ⟨(20, t), by omega⟩) (fun t => K s_plain (by simp only [L19, L18, L17, L16, L15, L14, L13, L12, L11, L10, L9, L8, L7, L6, L5, L4, L3, L2, L1, List.mem_cons, eq_self, true_or, or_true]) t) (K s_told (by simp only [L19, L18, L17, L16, L15, L14, L13, L12, L11, L10, L9, L8, L7, L6, L5, L4, L3, L2, L1, List.mem_cons, eq_self, true_or, or_true]) ()) (.inl h1)⟩
    | false =>
      cases h2 : t.plain with
      | false => exact ⟨_, law_Well c t (fun t => K s_Deep (by simp only [L19, L18, L17, L16, L15, L14, L13, L12, L11, L10, L9, L8, L7, L6, L5, L4, L3, L2, L1, List.mem_cons, eq_self, true_or, or_true]) ⟨(20, t), by omega⟩) (fun t => K s_plain (by simp only [L19, L18, L17, L16, L15, L14, L13, L12, L11, L10, L9, L8, L7, L6, L5, L4, L3, L2, L1, List.mem_cons, eq_self, true_or, or_true]) t) (K s_told (by simp only [L19, L18, L17, L16, L15, L14, L13, L12, L11, L10, L9, L8, L7, L6, L5, L4, L3, L2, L1, List.mem_cons, eq_self, true_or, or_true]) ()) (.inr h2)⟩
      | true => exact ⟨_, law_Well2 c t (fun t => K s_Deep (by simp only [L19, L18, L17, L16, L15, L14, L13, L12, L11, L10, L9, L8, L7, L6, L5, L4, L3, L2, L1, List.mem_cons, eq_self, true_or, or_true]) ⟨(20, t), by omega⟩) (fun t => K s_plain (by simp only [L19, L18, L17, L16, L15, L14, L13, L12, L11, L10, L9, L8, L7, L6, L5, L4, L3, L2, L1, List.mem_cons, eq_self, true_or, or_true]) t) (K s_told (by simp only [L19, L18, L17, L16, L15, L14, L13, L12, L11, L10, L9, L8, L7, L6, L5, L4, L3, L2, L1, List.mem_cons, eq_self, true_or, or_true]) ()) (fun t hs => K s_Well (by simp only [L19, L18, L17, L16, L15, L14, L13, L12, L11, L10, L9, L8, L7, L6, L5, L4, L3, L2, L1, List.mem_cons, eq_self, true_or, or_true]) ⟨t, hs⟩) (fun t hs => K s_RegionsR (by simp only [L19, L18, L17, L16, L15, L14, L13, L12, L11, L10, L9, L8, L7, L6, L5, L4, L3, L2, L1, List.mem_cons, eq_self, true_or, or_true]) ⟨t, hs⟩) h1 h2⟩
theorem run_Order (t : RT) (m n : List Int) : ∃ call tb, CallsOK TryzG Tryz.prog TryzGl call ∧ call 7 [.dv t.dv, .dv (.lst (m.map (DV.int .i64))), .dv (.lst (n.map (DV.int .i64)))] [] [] 0 = some (.dv (.bool true), tb) :=
  run_of TryzG_prims TryzG_ties ok19 (by kernel_rfl) fun c K => ⟨_, law_Order c t m n (fun t => K s_Deep (by simp only [L19, L18, L17, L16, L15, L14, L13, L12, L11, L10, L9, L8, L7, L6, L5, L4, L3, L2, L1, List.mem_cons, eq_self, true_or, or_true]) ⟨(20, t), by omega⟩) (K s_told (by simp only [L19, L18, L17, L16, L15, L14, L13, L12, L11, L10, L9, L8, L7, L6, L5, L4, L3, L2, L1, List.mem_cons, eq_self, true_or, or_true]) ()) (fun t hs => K s_RegionsR (by simp only [L19, L18, L17, L16, L15, L14, L13, L12, L11, L10, L9, L8, L7, L6, L5, L4, L3, L2, L1, List.mem_cons, eq_self, true_or, or_true]) ⟨t, hs⟩)
    (fun t m hs => K s_SubstR (by simp only [L19, L18, L17, L16, L15, L14, L13, L12, L11, L10, L9, L8, L7, L6, L5, L4, L3, L2, L1, List.mem_cons, eq_self, true_or, or_true]) ⟨(t, m), hs⟩) (fun a b hs => K s_Sub (by simp only [L19, L18, L17, L16, L15, L14, L13, L12, L11, L10, L9, L8, L7, L6, L5, L4, L3, L2, L1, List.mem_cons, eq_self, true_or, or_true]) ⟨(a, b), hs⟩) (fun l p q h1 h2 h3 => K s_follows (by simp only [L19, L18, L17, L16, L15, L14, L13, L12, L11, L10, L9, L8, L7, L6, L5, L4, L3, L2, L1, List.mem_cons, eq_self, true_or, or_true]) ⟨(l, p), h1, q, h2, h3⟩)⟩
end Go.Abs
end

/-
  More that is known of the seat's functions; no condition.
-/
import Derived.Test.YtjgfjfdodekkpaaGreatDoorRegB
import Derived.Test.YtjgfjfdodekkpaaGreatDoorWalkJ
set_option linter.all false

section
namespace Go.Abs
open Go.Proofs
set_option maxRecDepth 10000
attribute [local irreducible] callStep callN reg
theorem run_Numbers (t : RT) (m n : List Int) : ∃ call tb, CallsOK TryzG Tryz.prog TryzGl call ∧ call 9 [.dv t.dv, .dv (.lst (m.map (DV.int .i64))), .dv (.lst (n.map (DV.int .i64)))] [] [] 0 = some (.dv (.bool true), tb) :=
  run_of TryzG_prims TryzG_ties ok19 (by kernel_rfl) fun c K => ⟨_, law_Numbers c t m n (fun t => K s_Deep (by simp only [L19, L18, L17, L16, L15, L14, L13, L12, L11, L10, L9, L8, L7, L6, L5, L4, L3, L2, L1, List.mem_cons, eq_self, true_or, or_true]) ⟨(60, t), by omega⟩) (K s_told (by simp only [L19, L18, L17, L16, L15, L14, L13, L12, L11, L10, L9, L8, L7, L6, L5, L4, L3, L2, L1, List.mem_cons, eq_self, true_or, or_true]) ()) (fun t hs => K s_RegionsR (by simp only [L19, L18, L17, L16, L15, L14, L13, L12, L11, L10, L9, L8, L7, L6, L5, L4, L3, L2, L1, List.mem_cons, eq_self, true_or, or_true]) ⟨t, hs⟩) (fun t hs => K s_Regions (by simp only [L19, L18, L17, L16, L15, L14, L13, L12, L11, L10, L9, L8, L7, L6, L5, L4, L3, L2, L1, List.mem_cons, eq_self, true_or, or_true]) ⟨t, hs⟩)
    (fun t => K s_plain (by simp only [L19, L18, L17, L16, L15, L14, L13, L12, L11, L10, L9, L8, L7, L6, L5, L4, L3, L2, L1, List.mem_cons, eq_self, true_or, or_true]) t) (fun t m hs => K s_Subst (by simp only [L19, L18, L17, L16, L15, L14, L13, L12, L11, L10, L9, L8, L7, L6, L5, L4, L3, L2, L1, List.mem_cons, eq_self, true_or, or_true]) ⟨(t, m), hs⟩) (fun t hs => K s_Exact (by simp only [L19, L18, L17, L16, L15, L14, L13, L12, L11, L10, L9, L8, L7, L6, L5, L4, L3, L2, L1, List.mem_cons, eq_self, true_or, or_true]) ⟨t, hs⟩) (fun a b hs => K s_Same (by simp only [L19, L18, L17, L16, L15, L14, L13, L12, L11, L10, L9, L8, L7, L6, L5, L4, L3, L2, L1, List.mem_cons, eq_self, true_or, or_true]) (.inl ⟨(a, b), hs⟩)) (fun t => K s_Copy (by simp only [L19, L18, L17, L16, L15, L14, L13, L12, L11, L10, L9, L8, L7, L6, L5, L4, L3, L2, L1, List.mem_cons, eq_self, true_or, or_true]) t)⟩
end Go.Abs
end

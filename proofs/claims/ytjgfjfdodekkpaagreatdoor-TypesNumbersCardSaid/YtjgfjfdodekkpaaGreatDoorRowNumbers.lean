/-
  Proved: the tied card of TypesNumbers: each call returns true and leaves its arguments as they were; no condition.
-/
import Derived.Test.YtjgfjfdodekkpaaGreatDoorRows
import Derived.ChangeSame
import Derived.ChangeVars
import Derived.JoinedOf
import Derived.RowKit
import Derived.RowKitTokens
import Derived.LaidLaws
import Derived.LaidHandle
import Derived.Stop.Joined
import Derived.Shelf.Vars
import Derived.Test.YtjgfjfdodekkpaaGreatDoorTie
import Derived.Test.YtjgfjfdodekkpaaGreatDoorCards
import Derived.SevenTiedAt
import Derived.Test.YtjgfjfdodekkpaaGreatDoorAbs4
import Derived.Test.YtjgfjfdodekkpaaGreatDoorCtx
import Derived.Test.YtjgfjfdodekkpaaGreatDoorAbs5
import Derived.Test.YtjgfjfdodekkpaaGreatDoorWalkA
import Derived.Test.YtjgfjfdodekkpaaGreatDoorRegC
set_option linter.all false

section
namespace Go.Proofs.YtjgfjfdodekkpaaGreatDoor
open Go.ChangeShapes Go.WideShapes Go.RowKit

theorem Tryz.own : ownKnob Tryz.prog.godebug = none := by kernel_rfl
theorem Tryz.et : Tryz.prog.globalNamed "errors.errorType" = some 0 := by kernel_rfl
theorem Tryz.rt : (Tryz.prog.cutTypes.find? (·.1 == "internal/reflectlite.rtype")).map (·.2) = some 219 := by kernel_rfl
theorem Tryz.oneRow : ((List.range 283).filter fun t => Tryz.prog.rowNamed t [101, 114, 114, 111, 114]) = [49] := by kernel_rfl
theorem Tryz.size : Tryz.prog.types.size = 283 := by kernel_rfl

/-- What is laid in the rows. -/
noncomputable def laidL {H : Type} : List (String × DataW H) := [("errors.errorType", Rows.laid_errors_errorType)]

/-- What the condition gives: the variable's cell. -/
theorem handle_of_laid {W : World} (h : laidMetH Tryz.prog laidL W) : W.cell? ⟨0, 0, none⟩ = some (.iface 219 (.agg #[.pointer (some ⟨2, 49, none⟩)])) := by
  have h' : laidMet Tryz.prog [] W ∧ handlesMet Tryz.prog laidL W := h
  obtain ⟨name, u, ty, e1, e2, e3, e4, e5⟩ := h'.2 _ (List.mem_singleton.2 rfl)
  have en : name = [101, 114, 114, 111, 114] := (Option.some.inj e1).symm
  subst en
  obtain rfl := Option.some.inj (Tryz.rt.symm.trans e2)
  have hm : ty ∈ (List.range 283).filter fun t => Tryz.prog.rowNamed t [101, 114, 114, 111, 114] := List.mem_filter.2 ⟨List.mem_range.2 (by rw [← Tryz.size]; exact e3), e4⟩
  rw [Tryz.oneRow] at hm
  obtain rfl := List.mem_singleton.1 hm
  have hh : typeHandle Tryz.prog 49 = .pointer (some ⟨2, 49, none⟩) := by kernel_rfl
  rw [hh] at e5
  simpa using World.var?_cell Tryz.et e5 0

theorem maxLen_of_shaped {W : World} (h : W.ShapedOpen Tryz.prog) : ∃ m, W.cell? ⟨1, 0, none⟩ = some (.int .i64 m) :=
  cell_of_shapedOpen_int (zero := #[.int .i64 0]) (t := 3) h (of_decide_eq_true (by kernel_rfl)) (by kernel_rfl) rfl (by kernel_rfl) (by kernel_rfl) Tryz.underlying3

/-- A world that meets the condition: the settled one, the variable's cell laid. -/
noncomputable def laidWorld (os : Os) : World :=
  let w0 := World.holding Tryz.prog os ⟨#[], #[], []⟩
  { w0 with heap := w0.heap.modify 0 fun
      | .cells _ t frozen => .cells #[.iface 219 (.agg #[.pointer (some ⟨2, 49, none⟩)])] t frozen
      | o => o }
theorem laidWorld_met (os : Os) (args : Array Value) : laidMetH Tryz.prog laidL ((laidWorld os).forCall (fun _ _ => 0) ⟨#[], args, []⟩).memory :=
  laidMetH_of_parts (laidMet_nil _ _) (by kernel_rfl)

/-- The library's two variables, frozen. -/
def gF (m : Int) : Go.Abs.Fz :=
  { cell := fun b i => if b = 0 ∧ i = 0 then some (.iface 219 (.agg #[.pointer (some ⟨2, 49, none⟩)])) else if b = 1 ∧ i = 0 then some (.int .i64 m) else none, map := fun _ => none }
theorem gF_ok {W : World} {m : Int} (h0 : W.cell? ⟨0, 0, none⟩ = some (.iface 219 (.agg #[.pointer (some ⟨2, 49, none⟩)]))) (h1 : W.cell? ⟨1, 0, none⟩ = some (.int .i64 m)) : (gF m).ok W := by
  refine ⟨fun b i v hv => ?_, fun b es hv => by simp [gF] at hv⟩
  simp only [gF] at hv
  split at hv
  · rename_i hq; obtain ⟨rfl, rfl⟩ := hq; rw [← hv]; exact h0
  · split at hv
    · rename_i hq; obtain ⟨rfl, rfl⟩ := hq; rw [← hv]; exact h1
    · cases hv
theorem gF_gl (m : Int) : Go.Abs.TryzGl (gF m) := ⟨by simp [gF], m, by simp [gF]⟩

end Go.Proofs.YtjgfjfdodekkpaaGreatDoor
end

section
namespace Go.Abs
open Go.Proofs

theorem tI : IntT Tryz.prog 3 := ⟨Tryz.underlying3⟩
theorem tS : StrT Tryz.prog 9 := ⟨Tryz.underlying9⟩
theorem tIs : LstT Tryz.prog 22 3 := ⟨Tryz.underlying22⟩
theorem tSs : LstT Tryz.prog 33 9 := ⟨Tryz.underlying33⟩
theorem tRs : LstT Tryz.prog 23 25 := ⟨Tryz.underlying23⟩
theorem tR : StructT Tryz.prog 25 4 [(3, 0, 1), (9, 1, 1), (22, 2, 1), (23, 3, 1)] := ⟨⟨_, Tryz.underlying25, by kernel_rfl⟩, by kernel_rfl⟩
theorem tvInt {d : DV} (h : TyV Tryz.prog 3 d) : ∃ i, d = .int .i64 i ∧ I64 i := tv_one tI.agg (fun k => tI.ty k) h
theorem tvInts {d : DV} (h : TyV Tryz.prog 22 d) : ∃ l : List Int, d = .lst (l.map (DV.int .i64)) ∧ l.length ≤ maxLen ∧ ∀ i ∈ l, I64 i := tv_one tIs.agg (f := fun l : List Int => DV.lst (l.map (DV.int .i64))) (fun k => ints_ty tIs tI k) h
theorem tvStrs {d : DV} (h : TyV Tryz.prog 33 d) : ∃ l : List ByteArray, d = .lst (l.map DV.str) ∧ l.length ≤ maxLen ∧ ∀ i ∈ l, i.size ≤ maxLen := tv_one tSs.agg (f := fun l : List ByteArray => DV.lst (l.map DV.str)) (fun k => strs_ty tSs tS k) h
theorem tvRT {d : DV} (h : TyV Tryz.prog 25 d) : ∃ t : RT, d = t.dv := by
  obtain ⟨t, rfl, _⟩ := tv_agg tR.agg (cs := RT.cs) (p := fun _ => True) (fun {n x} k => let ⟨t, ht⟩ := RT_ty tI tS tIs tRs tR n x k; ⟨t, ht, trivial⟩) h
  exact ⟨t, t.agg_cs⟩
/-- The types that the arguments are made of. -/
def plainS : List TypeId := [3, 9, 22, 33, 25, 23, 36, 34]
theorem plainS_all : plainS.all (fun t => plainT Tryz.prog plainS t) = true := by kernel_rfl
theorem plainS_ok : ∀ t, has t plainS = true → plainT Tryz.prog plainS t = true := fun t ht => List.all_eq_true.1 plainS_all t (has_mem ht)
end Go.Abs
end

section
namespace Go.Proofs.YtjgfjfdodekkpaaGreatDoor
open Go.ChangeShapes Go.WideShapes Go.RowKit
set_option maxRecDepth 100000
theorem numbers_lifted (os : Os) (started : os.Started) (H : Type) (enc : TypeId × Value → H) :
    ReturnsInHanded {} Tryz.checked os 9 .any (fun w args => (Rows.typesNumbersSpec.pre enc Tryz.prog Tryz.f9 [] false w args ∧ laidMetH Tryz.prog laidL w) ∧ sizedMet enc Tryz.prog Tryz.f9 (OpenSpec.ofChange Rows.typesNumbersSpec) false w args)
      (Rows.typesNumbersSpec.post enc Tryz.prog Tryz.f9 false true false false) := by
  refine Go.Abs.returnsInHanded_of_change_shaped_and (C := Tryz.checked) (X := fun w _ => laidMetH Tryz.prog laidL w) (fun _ _ _ hh h => h.of_heap hh) Tryz.own started (by kernel_rfl) Tryz.func9
    (ChangeSpec.witness_at (enc := enc) (C := Tryz.checked) (os := os) (X := fun w _ => laidMetH Tryz.prog laidL w) false (laidWorld os) #[.agg #[.int .i64 0, .string ⟨#[]⟩, .slice none 0 0, .slice none 0 0], .slice none 0 0, .slice none 0 0] 8 rfl (by kernel_rfl) (by kernel_rfl) (by kernel_rfl) (by kernel_rfl) (by kernel_rfl) (laidWorld_met os _)) ?_
  intro W base args ds gs before hval hW _ _ hL hsh _
  obtain ⟨m, hm⟩ := maxLen_of_shaped hsh
  exact Go.Abs.law_calls (G := Go.Abs.TryzG) (Gl := Go.Abs.TryzGl) Go.Abs.plainS_ok (by rw [Tryz.params9]; intro t ht; simp only [List.mem_cons, List.not_mem_nil, or_false] at ht; rcases ht with rfl | rfl | rfl <;> rfl) rfl Tryz.underlying4 rfl
    (fun ds hl => by rw [Tryz.params9] at hl; match ds, hl with | [d1, d2, d3], _ => rfl) (fun dvs h => by rw [Tryz.params9] at h; obtain ⟨_, _, rfl, h1, _, _, rfl, h2, _, _, rfl, h3, rfl⟩ := h; obtain ⟨t, rfl⟩ := Go.Abs.tvRT h1; obtain ⟨m, rfl, _⟩ := Go.Abs.tvInts h2; obtain ⟨n, rfl, _⟩ := Go.Abs.tvInts h3; exact Go.Abs.run_Numbers t m n) hval hW ⟨handle_of_laid hL, m, hm⟩
theorem numbers_holds : Rows.TypesNumbersSaid :=
  OpenClaim.holds_of_wide 9 Tryz.f9 rfl rfl rfl rfl rfl rfl rfl ⟨rfl, rfl, rfl, rfl, rfl⟩ rfl rfl rfl rfl rfl (by kernel_rfl) Tryz.func9 (by kernel_rfl)
    (of_decide_eq_true (by kernel_rfl)) (by unfold Func.isWrapper; rw [if_neg (of_decide_eq_false (by kernel_rfl))]; exact ⟨rfl, rfl⟩)
    (fun os started H enc _ => numbers_lifted os started H enc)
theorem numbers_card : Rows.TypesNumbersCardSaid :=
  Claim7.holds_tied_plain_at .later [] [.handle] true (true, "36c00e06d54e78c38f3f68d8e9271769af4bc3df69102e6380c7af2bf9050a88") true
    numbers_holds (fun _ h => by cases h) (by kernel_rfl) (fun _ h => by cases h) typesNumbers_row_tie rfl ⟨rfl, rfl⟩ (by kernel_rfl) rfl
    (fun f fn hf hfn => by
      obtain rfl : f = 9 := Option.some.inj ((show Tryz.prog.funcNamed "usufruct/usufructlaw14.TypesNumbers" = some 9 by kernel_rfl).symm.trans hf) |>.symm
      obtain rfl : fn = Tryz.f9 := (Option.some.inj (Tryz.func9.symm.trans hfn)).symm
      have all : (Tryz.f9.params.toList.all fun t => !Tryz.prog.wantsStandIn t) = true := by kernel_rfl
      exact ⟨by kernel_rfl, fun j t ht => by
        have := List.all_eq_true.1 all t (by rw [Array.mem_toList_iff]; exact Array.mem_of_getElem? ht)
        exact (show Tryz.prog.wantsStandIn t = false by simpa using this)⟩)
    (by kernel_rfl)
end Go.Proofs.YtjgfjfdodekkpaaGreatDoor
end

/-
  Proved: the tied card of ScopeKnown: each call returns true and leaves its argument as it was; no condition.
-/
import Derived.Test.YthacohidckonkaaGreatDoorTie
import Derived.Test.YthacohidckonkaaGreatDoorCards
import Derived.SevenTiedAt
import Derived.Test.YthacohidckonkaaGreatDoorKnownK0
import Derived.Test.YthacohidckonkaaGreatDoorKnownK1
import Derived.Test.YthacohidckonkaaGreatDoorKnownK2
import Derived.Test.YthacohidckonkaaGreatDoorKnownK3
import Derived.Test.YthacohidckonkaaGreatDoorKnownA
set_option linter.all false

section
namespace Go.Abs
open Go.Proofs

theorem known13 (n : Int) : callStep TryzG 200 (callN TryzG O13t 200) 3 [.dv (.int .i64 n)] [] [] 0 = some (.dv (.bool true), []) := by
  rw [step13, pre13]
  obtain ⟨h0, h1⟩ := idx13_range n
  generalize idx13 n = i at h0 h1
  have hi : i = 0 ∨ i = 1 ∨ i = 2 ∨ i = 3 ∨ i = 4 ∨ i = 5 ∨ i = 6 ∨ i = 7 ∨ i = 8 ∨ i = 9 ∨ i = 10 ∨ i = 11 ∨ i = 12 ∨ i = 13 ∨ i = 14 ∨ i = 15 ∨ i = 16 ∨ i = 17 ∨ i = 18 ∨ i = 19 ∨ i = 20 ∨ i = 21 := by omega
  rcases hi with rfl | rfl | rfl | rfl | rfl | rfl | rfl | rfl | rfl | rfl | rfl | rfl | rfl | rfl | rfl | rfl | rfl | rfl | rfl | rfl | rfl | rfl
  · exact case13_0
  · exact case13_1
  · exact case13_2
  · exact case13_3
  · exact case13_4
  · exact case13_5
  · exact case13_6
  · exact case13_7
  · exact case13_8
  · exact case13_9
  · exact case13_10
  · exact case13_11
  · exact case13_12
  · exact case13_13
  · exact case13_14
  · exact case13_15
  · exact case13_16
  · exact case13_17
  · exact case13_18
  · exact case13_19
  · exact case13_20
  · exact case13_21

theorem calls13 (n : Int) {F : Fz} {w : World} (hok : F.ok w) (hg : TryzGl F) : Calls Tryz.prog 3 #[.int .i64 n] w fun e w' => e = .returned (.bool true) ∧ ∃ g', Chg (freshWr w) 0 { F := F, θ := id, ow := fun _ => none } w g' w' := by
  refine Calls.mono (call_deep (step_ok TryzG_prims TryzG_ties 200 (TryzG_calls O13t_ok 200)) (known13 n) (ds := [.int .i64 n]) hok hg (by simp [RepL, Rep])) ?_
  rintro e w' ⟨v, rfl, g', h1, _, h3⟩
  simp only [Rep] at h3
  subst h3
  exact ⟨rfl, g', h1⟩
end Go.Abs

namespace Go.Proofs.YthacohidckonkaaGreatDoor
open Go.ChangeShapes Go.WideShapes Go.RowKit

set_option maxRecDepth 100000 in
theorem known_lifted (os : Os) (started : os.Started) (H : Type) (enc : TypeId × Value → H) :
    ReturnsInHanded {} Tryz.checked os 3 .any (fun w args => (Rows.scopeKnownSpec.pre enc Tryz.prog Tryz.f3 [] false w args ∧ laidMetH Tryz.prog laidL w) ∧ sizedMet enc Tryz.prog Tryz.f3 (OpenSpec.ofChange Rows.scopeKnownSpec) false w args)
      (Rows.scopeKnownSpec.post enc Tryz.prog Tryz.f3 false true false false) := by
  refine Go.Abs.returnsInHanded_of_change_shaped_and (C := Tryz.checked) (X := fun w _ => laidMetH Tryz.prog laidL w) (fun _ _ _ hh h => h.of_heap hh) Tryz.own started (by kernel_rfl) Tryz.func3
    (ChangeSpec.witness_at (enc := enc) (C := Tryz.checked) (os := os) (X := fun w _ => laidMetH Tryz.prog laidL w) false (laidWorld os) #[.int .i64 0] 8 rfl (by kernel_rfl) (by kernel_rfl) (by kernel_rfl) (by kernel_rfl) (by kernel_rfl) (laidWorld_met os _)) ?_
  intro W base args ds gs before hval0 hW _ _ hL hsh _
  have hval : ∀ (j : Nat) t v, Tryz.f3.params[j]? = some t → args[j]? = some v → Value.okWide Tryz.prog W .any base t v := hval0
  have hW' := hW
  obtain ⟨p, q, hA0, hV0, rfl, hfz, hnd⟩ := hW
  have hA : DataW.TrodAll enc Tryz.prog W 0 (fun _ => true) true Tryz.f3.params.toList args.toList ds p := hA0
  have hV : DataW.TrodVars enc Tryz.prog W (fun _ => true) [] gs q := hV0
  rw [Tryz.params3] at hA hval
  obtain ⟨v0, d0, rfl, rfl, h0⟩ := trodAll_one hA
  obtain ⟨n, rfl, rfl, rfl, hwn⟩ := open_int Tryz.underlying3 (hval 0 3 v0 rfl rfl) h0
  have hg := handle_of_laid hL
  obtain ⟨m, hm⟩ := maxLen_of_shaped hsh
  obtain ⟨rfl, rfl⟩ : gs = [] ∧ q = [] := by
    cases gs with
    | nil => exact ⟨rfl, hV⟩
    | cons g r => exact absurd hV (by intro h; cases h)
  have e1 : Rows.scopeKnownSpec.fn H ([.lit (.int .i64 n)] ++ []) = { results := [.lit (.bool true)], args := [.lit (.int .i64 n)] } := by simp [Rows.scopeKnownSpec]
  refine (Go.Abs.calls13 n (gF_ok hg hm) (gF_gl m)).mono fun e W' ⟨he, g', hc⟩ => ?_
  subst he
  refine ⟨_, rfl, _, _, _, [], [], [], hW', ?_, ?_, ?_, Go.Abs.chg_keptBut hc _, fun h => by cases h⟩
  · rw [e1]; exact trodAll_mk1 (shut_bool Tryz.underlying4 true)
  · rw [e1]; exact trodAll_mk1 (shut_int Tryz.underlying3 hwn)
  · rw [e1]; rfl
theorem known_holds : Rows.ScopeKnownSaid :=
  OpenClaim.holds_of_wide 3 Tryz.f3 rfl rfl rfl rfl rfl rfl rfl ⟨rfl, rfl, rfl, rfl, rfl⟩ rfl rfl rfl rfl rfl (by kernel_rfl) Tryz.func3 (by kernel_rfl)
    (of_decide_eq_true (by kernel_rfl)) (by unfold Func.isWrapper; rw [if_neg (of_decide_eq_false (by kernel_rfl))]; exact ⟨rfl, rfl⟩)
    (fun os started H enc _ => known_lifted os started H enc)
end Go.Proofs.YthacohidckonkaaGreatDoor
end

section
namespace Go.Proofs.YthacohidckonkaaGreatDoor
open Go

theorem known_card : Rows.ScopeKnownCardSaid :=
  Claim7.holds_tied_plain_at .later [] [.handle] true (true, "7ecc0faa65bcfb64397d502bf898e36135dc876a92a7d0de06c76d4cc25e711a") true
    known_holds (fun _ h => by cases h) (by kernel_rfl) (fun _ h => by cases h) scopeKnown_row_tie rfl ⟨rfl, rfl⟩ (by kernel_rfl) rfl
    (fun f fn hf hfn => by
      obtain rfl : f = 3 := Option.some.inj ((show Tryz.prog.funcNamed "usufruct/usufructlaw13.ScopeKnown" = some 3 by kernel_rfl).symm.trans hf) |>.symm
      obtain rfl : fn = Tryz.f3 := (Option.some.inj (Tryz.func3.symm.trans hfn)).symm
      exact ⟨by kernel_rfl, fun j t ht => by
        rw [Tryz.params3] at ht
        have h3 : t = 3 := by
          rcases j with _ | j
          · simpa using ht.symm
          · simp at ht
        subst h3
        exact (show Tryz.prog.wantsStandIn 3 = false by kernel_rfl)⟩)
    (by kernel_rfl)
end Go.Proofs.YthacohidckonkaaGreatDoor
end

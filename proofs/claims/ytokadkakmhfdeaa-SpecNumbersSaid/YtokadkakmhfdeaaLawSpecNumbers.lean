/- SpecNumbers is true: the Go function returns true. -/
import Derived.Test.YtokadkakmhfdeaaRows
import Derived.Test.YtokadkakmhfdeaaPqRow
import Derived.Test.YtokadkakmhfdeaaPqWJ
set_option linter.unusedVariables false
set_option linter.unusedSimpArgs false
namespace Go.Proofs.Ytokadkakmhfdeaa.Pq
open Go.RowKit
theorem specNumbers_walk (w : World) : Calls Try.prog 4 #[] w fun e w' => e = .returned (.bool true) ∧ Below w.heap.size w w' := by
  have hS := Seen.empty w
  refine (snd4.2 [] _ _ _ (show (FSem.pure F4).run [] ⟨[], 0⟩ = some (.bool true, ⟨[], 0⟩) from rfl) _ w _ w [] hS.st .nil).mono ?_
  rintro e w' ⟨v, G', rfl, _, hst, hb⟩
  cases hb
  exact ⟨rfl, hst.below⟩
end Go.Proofs.Ytokadkakmhfdeaa.Pq
namespace Go.Proofs.Ytokadkakmhfdeaa.specNumbers
open Go.ChangeShapes Go.WideShapes Go.ChangeAt Go.RowKit
theorem own : ownKnob Try.prog.godebug = none := by kernel_rfl
set_option maxRecDepth 100000 in
theorem lifted (os : Os) (started : os.Started) (H : Type) (enc : TypeId × Value → H) :
    ReturnsInHanded {} Try.checked os 4 .any (Rows.specNumbersSpec.pre6 enc Try.prog Try.f4 Rows.specNumbersRow.domain false) (Rows.specNumbersSpec.post enc Try.prog Try.f4 false true false false) := by
  refine returnsInHanded_of_change_sized (C := Try.checked) own started (by kernel_rfl) Try.func4
    (ChangeSpec.witness6 (enc := enc) (C := Try.checked) false ⟨#[], #[], []⟩ 8 (by kernel_rfl) (by kernel_rfl) (by kernel_rfl) (by kernel_rfl)) ?_
  intro W base args ds gs before hval0 hW hcnd hsz0 _
  have hW' := hW
  obtain ⟨p, q, hA0, hV, rfl, hfz, hnd⟩ := hW
  have hA : DataW.TrodAll enc Try.prog W 0 (fun _ => true) true Try.f4.params.toList args.toList ds p := hA0
  rw [Try.params4] at hA
  obtain ⟨rfl, rfl, rfl⟩ := trodAll_none hA
  obtain ⟨rfl, rfl⟩ := trodVars_none hV
  clear hA0 hval0 hsz0
  refine (Pq.specNumbers_walk W).mono fun e W' ⟨he, bel⟩ => ?_
  subst he
  exact ⟨_, rfl, _, _, _, [], _, [], hW', trodAll_mk1 (shut_bool Try.underlying4 _), trodAll_mk0, rfl, bel.frame _, fun h => by cases h⟩
theorem over : Rows.specNumbersRow.holds Try.pinned (OpenSpec.ofChange Rows.specNumbersSpec) :=
  OpenClaim.holds_of_wide 4 Try.f4 rfl rfl rfl rfl rfl rfl rfl ⟨rfl, rfl, rfl, rfl, rfl⟩ rfl rfl rfl rfl rfl (by kernel_rfl) Try.func4 (by kernel_rfl)
    (of_decide_eq_true (by kernel_rfl)) (by unfold Func.isWrapper; first | (rw [if_pos (by decide +kernel)]; kernel_rfl) | (rw [if_neg (by decide +kernel)]; exact ⟨rfl, rfl⟩))
    (fun os started H enc _ => lifted os started H enc)
theorem proved : Rows.SpecNumbersSaid := over
end Go.Proofs.Ytokadkakmhfdeaa.specNumbers
namespace Go.Proofs.Ytokadkakmhfdeaa
/-- The row, under a short name, for the claim. -/
theorem specNumbers_holds : Rows.SpecNumbersSaid := specNumbers.proved
#print axioms specNumbers_holds
end Go.Proofs.Ytokadkakmhfdeaa

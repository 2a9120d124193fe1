/- SplitNumbers is true: the Go function returns true. -/
import Derived.Test.YtokadkakmhfdeaaRows
import Derived.Test.YtokadkakmhfdeaaMgSplitNumbers9
set_option linter.unusedVariables false
set_option linter.unusedSimpArgs false
set_option linter.unusedSectionVars false
namespace Go.Proofs.Ytokadkakmhfdeaa.Pq
open Go.RowKit
theorem splitNumbers_walk (w : World) : Calls Try.prog 8 #[] w fun e w' => e = .returned (.bool true) ∧ Below w.heap.size w w' := by
  have hS := Seen.empty w
  refine (snd8.2 [] _ _ _ (show (FSem.pure F8).run [] ⟨[], 0⟩ = some (.bool true, ⟨[], 0⟩) from rfl) _ w _ w [] hS.st .nil).mono ?_
  rintro e w' ⟨v, G', rfl, _, hst, hb⟩
  cases hb
  exact ⟨rfl, hst.below⟩
end Go.Proofs.Ytokadkakmhfdeaa.Pq
namespace Go.Proofs.Ytokadkakmhfdeaa.splitNumbers
open Go.ChangeShapes Go.WideShapes Go.ChangeAt Go.RowKit
theorem own : ownKnob Try.prog.godebug = none := by kernel_rfl
set_option maxRecDepth 100000 in
theorem lifted (os : Os) (started : os.Started) (H : Type) (enc : TypeId × Value → H) :
    ReturnsInHanded {} Try.checked os 8 .any (Rows.splitNumbersSpec.pre6 enc Try.prog Try.f8 Rows.splitNumbersRow.domain false) (Rows.splitNumbersSpec.post enc Try.prog Try.f8 false true false false) := by
  refine returnsInHanded_of_change_sized (C := Try.checked) own started (by kernel_rfl) Try.func8
    (ChangeSpec.witness6 (enc := enc) (C := Try.checked) false ⟨#[], #[], []⟩ 8 (by kernel_rfl) (by kernel_rfl) (by kernel_rfl) (by kernel_rfl)) ?_
  intro W base args ds gs before hval0 hW hcnd hsz0 _
  have hW' := hW
  obtain ⟨p, q, hA0, hV, rfl, hfz, hnd⟩ := hW
  have hA : DataW.TrodAll enc Try.prog W 0 (fun _ => true) true Try.f8.params.toList args.toList ds p := hA0
  rw [Try.params8] at hA
  obtain ⟨rfl, rfl, rfl⟩ := trodAll_none hA
  obtain ⟨rfl, rfl⟩ := trodVars_none hV
  clear hA0 hval0 hsz0
  refine (Pq.splitNumbers_walk W).mono fun e W' ⟨he, bel⟩ => ?_
  subst he
  exact ⟨_, rfl, _, _, _, [], _, [], hW', trodAll_mk1 (shut_bool Try.underlying4 _), trodAll_mk0, rfl, bel.frame _, fun h => by cases h⟩
theorem over : Rows.splitNumbersRow.holds Try.pinned (OpenSpec.ofChange Rows.splitNumbersSpec) :=
  OpenClaim.holds_of_wide 8 Try.f8 rfl rfl rfl rfl rfl rfl rfl ⟨rfl, rfl, rfl, rfl, rfl⟩ rfl rfl rfl rfl rfl (by kernel_rfl) Try.func8 (by kernel_rfl)
    (of_decide_eq_true (by kernel_rfl)) (by unfold Func.isWrapper; first | (rw [if_pos (by decide +kernel)]; kernel_rfl) | (rw [if_neg (by decide +kernel)]; exact ⟨rfl, rfl⟩))
    (fun os started H enc _ => lifted os started H enc)
theorem proved : Rows.SplitNumbersSaid := over
end Go.Proofs.Ytokadkakmhfdeaa.splitNumbers
namespace Go.Proofs.Ytokadkakmhfdeaa
/-- The row, under a short name, for the claim. -/
theorem splitNumbers_holds : Rows.SplitNumbersSaid := splitNumbers.proved
#print axioms splitNumbers_holds
end Go.Proofs.Ytokadkakmhfdeaa

/- SplitFirsts is true of every input: the Go function returns true and leaves its arguments as they were. -/
import Derived.Test.YtokadkakmhfdeaaRows
import Derived.Test.YtokadkakmhfdeaaMgSplitFirsts8
set_option linter.unusedVariables false
set_option linter.unusedSimpArgs false
set_option linter.unusedSectionVars false
namespace Go.Proofs.Ytokadkakmhfdeaa.Pq
open Go.RowKit
theorem splitFirsts_walk (a : Option Addr) (len cap : Nat) (zs : List Int) (w : World) (hz : IsRow w a len cap zs) (hy : len * 8 ≤ 140737488351232) (n : Int) :
    Calls Try.prog 11 #[.slice a len cap, .int .i64 n] w fun e w' => e = .returned (.bool true) ∧ Below w.heap.size w w' := by
  obtain ⟨av, G, H, hl, hS, _, hv, hi, hr⟩ := (Seen.empty w).ints hz hy
  have hF : (FSem.pure F11).run [av, .int .i64 n] H = some (.bool true, H) := by
    have : F11 [av, .int .i64 n] H = some (.bool true) := by simp only [F11]; rw [if_pos ⟨_, hi, hr⟩]
    simp [this]
  refine (snd11.2 [av, .int .i64 n] H _ _ hF _ w G w [.slice a len cap, .int .i64 n] hS.st (.cons _ _ _ _ hv (.cons _ _ _ _ (.int _ _) .nil))).mono ?_
  rintro e w' ⟨v, G', rfl, _, hst, hb⟩
  cases hb
  exact ⟨rfl, hst.below⟩
end Go.Proofs.Ytokadkakmhfdeaa.Pq
namespace Go.Proofs.Ytokadkakmhfdeaa.splitFirsts
open Go.ChangeShapes Go.WideShapes Go.ChangeAt Go.RowKit
theorem own : ownKnob Try.prog.godebug = none := by kernel_rfl
theorem laidOut : laidOutB Try.prog = true := by kernel_rfl
set_option maxRecDepth 100000 in
theorem lifted (os : Os) (started : os.Started) (H : Type) (enc : TypeId × Value → H) :
    ReturnsInHanded {} Try.checked os 11 .any (Rows.splitFirstsSpec.pre6 enc Try.prog Try.f11 Rows.splitFirstsRow.domain false) (Rows.splitFirstsSpec.post enc Try.prog Try.f11 false true false false) := by
  refine returnsInHanded_of_change_sized (C := Try.checked) own started (by kernel_rfl) Try.func11
    (ChangeSpec.witness6 (enc := enc) (C := Try.checked) false ⟨#[], #[.slice none 0 0, .int .i64 0], []⟩ 8 (by kernel_rfl) (by kernel_rfl) (by kernel_rfl) (by kernel_rfl)) ?_
  intro W base args ds gs before hval0 hW hcnd hsz0 _
  have hsz : (DataW.weightsEach Try.prog (Try.f11.params.toList ++ Rows.splitFirstsSpec.plain.varTypes Try.prog) (ds ++ gs)).all (· ≤ reachBytes) = true := hsz0
  have hval : ∀ (j : Nat) t v, Try.f11.params[j]? = some t → args[j]? = some v → Value.okWide Try.prog W .any base t v := hval0
  have hW' := hW
  obtain ⟨p, q, hA0, hV, rfl, hfz, hnd⟩ := hW
  have hA : DataW.TrodAll enc Try.prog W 0 (fun _ => true) true Try.f11.params.toList args.toList ds p := hA0
  rw [Try.params11] at hA hval hsz
  obtain ⟨v0, vs0, d0, ds0, p0, q0, hargs, rfl, rfl, h0, r0⟩ := trodAll_cons hA
  obtain ⟨v1, vs1, d1, ds1, p1, q1, rfl, rfl, rfl, h1, r1⟩ := trodAll_cons r0
  obtain ⟨rfl, rfl, rfl⟩ := trodAll_nil r1
  obtain rfl : args = #[v0, v1] := by cases args; simp_all
  obtain ⟨rfl, rfl⟩ := trodVars_none hV
  obtain ⟨a0, len0, cap0, rfl⟩ := okWide_slice Try.underlying22 (hval 0 22 v0 rfl rfl)
  obtain ⟨n1, rfl⟩ := okWide_int Try.underlying3 (hval 1 3 v1 rfl rfl)
  have k0 := h0
  have k1 := h1
  have lt1 : ∀ x ∈ p1, x.block < W.heap.size := by obtain ⟨m, hm⟩ := k1; exact DataW.trod_lt m _ _ _ hm
  have lt0 : ∀ x ∈ p0, x.block < W.heap.size := by obtain ⟨m, hm⟩ := k0; exact DataW.trod_lt m _ _ _ hm
  obtain ⟨z0, w0⟩ := Pq.row_ints Try.underlying22 Try.underlying3 (by kernel_rfl) h0
  have y0 := Pq.row_size hsz (j := 0) (t := 22) rfl rfl Try.underlying22 Try.underlying3 (by kernel_rfl) (by kernel_rfl) h0
  clear hA0 hval0 hsz0 hsz
  refine (Pq.splitFirsts_walk a0 len0 cap0 z0 W w0 y0 n1).mono fun e W' ⟨he, bel⟩ => ?_
  subst he
  exact ⟨_, rfl, _, _, _, [], _, [], hW', trodAll_mk1 (shut_bool Try.underlying4 _), (trodAll_cons_mk (Below.trod laidOut (by kernel_rfl) (of_decide_eq_true (by kernel_rfl)) k0 bel lt0) (trodAll_cons_mk (Below.trod laidOut (by kernel_rfl) (of_decide_eq_true (by kernel_rfl)) k1 bel lt1) trodAll_mk0)), rfl, bel.frame _, fun h => by cases h⟩
theorem over : Rows.splitFirstsRow.holds Try.pinned (OpenSpec.ofChange Rows.splitFirstsSpec) :=
  OpenClaim.holds_of_wide 11 Try.f11 rfl rfl rfl rfl rfl rfl rfl ⟨rfl, rfl, rfl, rfl, rfl⟩ rfl rfl rfl rfl rfl (by kernel_rfl) Try.func11 (by kernel_rfl)
    (of_decide_eq_true (by kernel_rfl)) (by unfold Func.isWrapper; first | (rw [if_pos (by decide +kernel)]; kernel_rfl) | (rw [if_neg (by decide +kernel)]; exact ⟨rfl, rfl⟩))
    (fun os started H enc _ => lifted os started H enc)
theorem proved : Rows.SplitFirstsSaid := over
end Go.Proofs.Ytokadkakmhfdeaa.splitFirsts
namespace Go.Proofs.Ytokadkakmhfdeaa
/-- The row, under a short name, for the claim. -/
theorem splitFirsts_holds : Rows.SplitFirstsSaid := splitFirsts.proved
#print axioms splitFirsts_holds
end Go.Proofs.Ytokadkakmhfdeaa

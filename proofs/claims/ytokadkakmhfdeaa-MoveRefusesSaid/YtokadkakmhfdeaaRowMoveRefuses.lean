/- MoveRefuses is true of every input: the Go function returns true and leaves its arguments as they were. -/
import Derived.Test.YtokadkakmhfdeaaRows
import Derived.Test.YtokadkakmhfdeaaMgMoveRefuses6
set_option linter.unusedVariables false
set_option linter.unusedSimpArgs false
set_option linter.unusedSectionVars false
namespace Go.Proofs.Ytokadkakmhfdeaa.Pq
open Go.RowKit
theorem moveRefuses_walk (w : World) (v0 v2 v3 v4 v5 v6 : Value) (r0 : RowI w v0) (r2 : RowI w v2) (r3 : RowI w v3) (r4 : RowI w v4) (r5 : RowI w v5) (r6 : RowI w v6) (d : Int) :
    Calls Try.prog 15 #[v0, .int .i64 d, v2, v3, v4, v5, v6] w fun e w' => e = .returned (.bool true) ∧ Below w.heap.size w w' := by
  obtain ⟨a0, G0, H0, l0, s0, p0, x0, i0, y0, z0⟩ := (Seen.empty w).row r0
  obtain ⟨a2, G2, H2, l2, s2, p2, x2, i2, y2, z2⟩ := s0.row r2
  obtain ⟨a3, G3, H3, l3, s3, p3, x3, i3, y3, z3⟩ := s2.row r3
  obtain ⟨a4, G4, H4, l4, s4, p4, x4, i4, y4, z4⟩ := s3.row r4
  obtain ⟨a5, G5, H5, l5, s5, p5, x5, i5, y5, z5⟩ := s4.row r5
  obtain ⟨a6, G6, H6, l6, s6, p6, x6, i6, y6, z6⟩ := s5.row r6
  have q5 := p6
  have m5 := l6
  have q4 := p5.trans q5
  have m4 := l5.trans m5
  have q3 := p4.trans q4
  have m3 := l4.trans m4
  have q2 := p3.trans q3
  have m2 := l3.trans m3
  have q0 := p2.trans q2
  have m0 := l2.trans m2
  have hF : (FSem.pure F15).run [a0, .int .i64 d, a2, a3, a4, a5, a6] H6 = some (.bool true, H6) := by
    have : F15 [a0, .int .i64 d, a2, a3, a4, a5, a6] H6 = some (.bool true) := by
      simp only [F15]
      rw [if_pos ⟨⟨i0, ints_ext q0 y0, z0⟩, ⟨i2, ints_ext q2 y2⟩, ⟨i3, ints_ext q3 y3⟩, ⟨i4, ints_ext q4 y4⟩, ⟨i5, ints_ext q5 y5⟩, ⟨i6, y6⟩⟩]
    simp [this]
  refine (snd15.2 _ H6 _ _ hF _ w G6 w [v0, .int .i64 d, v2, v3, v4, v5, v6] s6.st (.cons _ _ _ _ (x0.le m0) (.cons _ _ _ _ (.int _ _) (.cons _ _ _ _ (x2.le m2) (.cons _ _ _ _ (x3.le m3) (.cons _ _ _ _ (x4.le m4) (.cons _ _ _ _ (x5.le m5) (.cons _ _ _ _ x6 .nil)))))))).mono ?_
  rintro e w' ⟨v, G', rfl, _, hst, hb⟩
  cases hb
  exact ⟨rfl, hst.below⟩
end Go.Proofs.Ytokadkakmhfdeaa.Pq
namespace Go.Proofs.Ytokadkakmhfdeaa.moveRefuses
open Go.ChangeShapes Go.WideShapes Go.ChangeAt Go.RowKit
theorem own : ownKnob Try.prog.godebug = none := by kernel_rfl
theorem laidOut : laidOutB Try.prog = true := by kernel_rfl
set_option maxRecDepth 100000 in
theorem lifted (os : Os) (started : os.Started) (H : Type) (enc : TypeId × Value → H) :
    ReturnsInHanded {} Try.checked os 15 .any (Rows.moveRefusesSpec.pre6 enc Try.prog Try.f15 Rows.moveRefusesRow.domain false) (Rows.moveRefusesSpec.post enc Try.prog Try.f15 false true false false) := by
  refine returnsInHanded_of_change_sized (C := Try.checked) own started (by kernel_rfl) Try.func15
    (ChangeSpec.witness6 (enc := enc) (C := Try.checked) false ⟨#[], #[.slice none 0 0, .int .i64 0, .slice none 0 0, .slice none 0 0, .slice none 0 0, .slice none 0 0, .slice none 0 0], []⟩ 8 (by kernel_rfl) (by kernel_rfl) (by kernel_rfl) (by kernel_rfl)) ?_
  intro W base args ds gs before hval0 hW hcnd hsz0 _
  have hsz : (DataW.weightsEach Try.prog (Try.f15.params.toList ++ Rows.moveRefusesSpec.plain.varTypes Try.prog) (ds ++ gs)).all (· ≤ reachBytes) = true := hsz0
  have hval : ∀ (j : Nat) t v, Try.f15.params[j]? = some t → args[j]? = some v → Value.okWide Try.prog W .any base t v := hval0
  have hW' := hW
  obtain ⟨p, q, hA0, hV, rfl, hfz, hnd⟩ := hW
  have hA : DataW.TrodAll enc Try.prog W 0 (fun _ => true) true Try.f15.params.toList args.toList ds p := hA0
  rw [Try.params15] at hA hval hsz
  obtain ⟨v0, vs0, d0, ds0, p0, q0, hargs, rfl, rfl, h0, r0⟩ := trodAll_cons hA
  obtain ⟨v1, vs1, d1, ds1, p1, q1, rfl, rfl, rfl, h1, r1⟩ := trodAll_cons r0
  obtain ⟨v2, vs2, d2, ds2, p2, q2, rfl, rfl, rfl, h2, r2⟩ := trodAll_cons r1
  obtain ⟨v3, vs3, d3, ds3, p3, q3, rfl, rfl, rfl, h3, r3⟩ := trodAll_cons r2
  obtain ⟨v4, vs4, d4, ds4, p4, q4, rfl, rfl, rfl, h4, r4⟩ := trodAll_cons r3
  obtain ⟨v5, vs5, d5, ds5, p5, q5, rfl, rfl, rfl, h5, r5⟩ := trodAll_cons r4
  obtain ⟨v6, vs6, d6, ds6, p6, q6, rfl, rfl, rfl, h6, r6⟩ := trodAll_cons r5
  obtain ⟨rfl, rfl, rfl⟩ := trodAll_nil r6
  obtain rfl : args = #[v0, v1, v2, v3, v4, v5, v6] := by cases args; simp_all
  obtain ⟨rfl, rfl⟩ := trodVars_none hV
  have hw : ∀ (j : Nat) (t : TypeId) (d : DataW H), [22, 3, 22, 22, 22, 22, 22][j]? = some t → [d0, d1, d2, d3, d4, d5, d6][j]? = some d → ∀ n ∈ d.weights Try.prog t, n ≤ reachBytes := by
    intro j t d ht hd n hn
    have := List.all_eq_true.1 hsz n (DataW.weights_mem_each ht hd n hn)
    simpa using this
  obtain ⟨b0, len0, cap0, rfl⟩ := okWide_slice Try.underlying22 (hval 0 22 v0 rfl rfl)
  obtain ⟨n1, rfl⟩ := okWide_int Try.underlying3 (hval 1 3 v1 rfl rfl)
  obtain ⟨b2, len2, cap2, rfl⟩ := okWide_slice Try.underlying22 (hval 2 22 v2 rfl rfl)
  obtain ⟨b3, len3, cap3, rfl⟩ := okWide_slice Try.underlying22 (hval 3 22 v3 rfl rfl)
  obtain ⟨b4, len4, cap4, rfl⟩ := okWide_slice Try.underlying22 (hval 4 22 v4 rfl rfl)
  obtain ⟨b5, len5, cap5, rfl⟩ := okWide_slice Try.underlying22 (hval 5 22 v5 rfl rfl)
  obtain ⟨b6, len6, cap6, rfl⟩ := okWide_slice Try.underlying22 (hval 6 22 v6 rfl rfl)
  have k0 := h0
  have k1 := h1
  have k2 := h2
  have k3 := h3
  have k4 := h4
  have k5 := h5
  have k6 := h6
  have lt0 : ∀ x ∈ p0, x.block < W.heap.size := by obtain ⟨m, hm⟩ := k0; exact DataW.trod_lt m _ _ _ hm
  have lt1 : ∀ x ∈ p1, x.block < W.heap.size := by obtain ⟨m, hm⟩ := k1; exact DataW.trod_lt m _ _ _ hm
  have lt2 : ∀ x ∈ p2, x.block < W.heap.size := by obtain ⟨m, hm⟩ := k2; exact DataW.trod_lt m _ _ _ hm
  have lt3 : ∀ x ∈ p3, x.block < W.heap.size := by obtain ⟨m, hm⟩ := k3; exact DataW.trod_lt m _ _ _ hm
  have lt4 : ∀ x ∈ p4, x.block < W.heap.size := by obtain ⟨m, hm⟩ := k4; exact DataW.trod_lt m _ _ _ hm
  have lt5 : ∀ x ∈ p5, x.block < W.heap.size := by obtain ⟨m, hm⟩ := k5; exact DataW.trod_lt m _ _ _ hm
  have lt6 : ∀ x ∈ p6, x.block < W.heap.size := by obtain ⟨m, hm⟩ := k6; exact DataW.trod_lt m _ _ _ hm
  have ri : ∀ {t v d ps}, t = 22 → DataW.Trod enc Try.prog W 0 (fun _ => true) true t v d ps → (∀ n ∈ d.weights Try.prog t, n ≤ reachBytes) → v.cells.toList = [v] → Pq.RowI W v := by
    intro t v d ps ht h hn hc
    subst ht
    obtain ⟨m, hm⟩ := h
    obtain ⟨v', e, r⟩ := Pq.row_ints1 Try.underlying22 Try.underlying3 (by kernel_rfl) (by kernel_rfl) hm hn
    rw [hc] at e
    cases e
    exact r
  have R0 := ri rfl h0 (hw 0 22 d0 rfl rfl) rfl
  have R2 := ri rfl h2 (hw 2 22 d2 rfl rfl) rfl
  have R3 := ri rfl h3 (hw 3 22 d3 rfl rfl) rfl
  have R4 := ri rfl h4 (hw 4 22 d4 rfl rfl) rfl
  have R5 := ri rfl h5 (hw 5 22 d5 rfl rfl) rfl
  have R6 := ri rfl h6 (hw 6 22 d6 rfl rfl) rfl
  clear hA0 hval0 hsz0 hsz hw ri
  refine (Pq.moveRefuses_walk W _ _ _ _ _ _ R0 R2 R3 R4 R5 R6 n1).mono fun e W' ⟨he, bel⟩ => ?_
  subst he
  exact ⟨_, rfl, _, _, _, [], _, [], hW', trodAll_mk1 (shut_bool Try.underlying4 _), (trodAll_cons_mk (Below.trod laidOut (by kernel_rfl) (of_decide_eq_true (by kernel_rfl)) k0 bel lt0) (trodAll_cons_mk (Below.trod laidOut (by kernel_rfl) (of_decide_eq_true (by kernel_rfl)) k1 bel lt1) (trodAll_cons_mk (Below.trod laidOut (by kernel_rfl) (of_decide_eq_true (by kernel_rfl)) k2 bel lt2) (trodAll_cons_mk (Below.trod laidOut (by kernel_rfl) (of_decide_eq_true (by kernel_rfl)) k3 bel lt3) (trodAll_cons_mk (Below.trod laidOut (by kernel_rfl) (of_decide_eq_true (by kernel_rfl)) k4 bel lt4) (trodAll_cons_mk (Below.trod laidOut (by kernel_rfl) (of_decide_eq_true (by kernel_rfl)) k5 bel lt5) (trodAll_cons_mk (Below.trod laidOut (by kernel_rfl) (of_decide_eq_true (by kernel_rfl)) k6 bel lt6) trodAll_mk0))))))), rfl, bel.frame _, fun h => by cases h⟩
theorem over : Rows.moveRefusesRow.holds Try.pinned (OpenSpec.ofChange Rows.moveRefusesSpec) :=
  OpenClaim.holds_of_wide 15 Try.f15 rfl rfl rfl rfl rfl rfl rfl ⟨rfl, rfl, rfl, rfl, rfl⟩ rfl rfl rfl rfl rfl (by kernel_rfl) Try.func15 (by kernel_rfl)
    (of_decide_eq_true (by kernel_rfl)) (by unfold Func.isWrapper; first | (rw [if_pos (by decide +kernel)]; kernel_rfl) | (rw [if_neg (by decide +kernel)]; exact ⟨rfl, rfl⟩))
    (fun os started H enc _ => lifted os started H enc)
theorem proved : Rows.MoveRefusesSaid := over
end Go.Proofs.Ytokadkakmhfdeaa.moveRefuses
namespace Go.Proofs.Ytokadkakmhfdeaa
/-- The row, under a short name, for the claim. -/
theorem moveRefuses_holds : Rows.MoveRefusesSaid := moveRefuses.proved
#print axioms moveRefuses_holds
end Go.Proofs.Ytokadkakmhfdeaa

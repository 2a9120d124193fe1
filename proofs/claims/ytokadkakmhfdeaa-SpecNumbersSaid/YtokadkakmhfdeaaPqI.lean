/- copy, small operations; each operation of the executor. -/
import Derived.Test.YtokadkakmhfdeaaPqH
set_option linter.unusedVariables false
set_option linter.unusedSimpArgs false
namespace Go.Proofs.Ytokadkakmhfdeaa.Pq
open Go.RowKit

section
variable {P : Program} {T : Tab} {B0 : Nat} {w0 w : World} {G : Cx} {H : Hp}

theorem copy_ok (hT : TOK P T) (h : St B0 w0 G H w) {t e u : Nat} {ie : TI} (ht : Tab.d T t = .slice e) (he : T e = some ie)
    {d x v' : AV} {H' : Hp} {vd vx : Value} (hd : RV G d vd) (hx : RV G x vx) (ha : acopy ie.size d x H = some (v', H')) (ty : Nat) :
    OkV P B0 w0 G w (Builtin.copy_ #[t, u] ty #[vd, vx]) v' H' := by
  have hut := desc_slice hT ht
  have hsz := run_sizeOf (hT e ie he) w
  unfold acopy at ha
  split at ha
  · rename_i p hc
    obtain ⟨m, xs⟩ := p
    cases ha
    cases hd
    have hl : ∃ m', (Builtin.lenOf vx).run P w = .ok m' w ∧ (Builtin.firstCells ie.size 0 vx).run P w = .ok #[] w := by
      cases hx <;> simp only [slCells] at hc <;> first | (cases hc; done) | skip
      · exact ⟨0, by simp [Builtin.lenOf], by simp [Builtin.firstCells]⟩
      · exact ⟨0, by simp [Builtin.lenOf], by simp [Builtin.firstCells]⟩
      · exact ⟨_, by simp only [Builtin.lenOf]; rfl, by simp [Builtin.firstCells, loadCells, loadCellsFrom]⟩
      · exact ⟨_, by simp only [Builtin.lenOf]; rfl, by simp [Builtin.firstCells, loadCells, loadCellsFrom]⟩
    obtain ⟨m', hl1, hl2⟩ := hl
    refine ⟨.int .i64 0, w, G, ?_, Le.refl G, h, .int _ _⟩
    simp [Builtin.copy_, run_underlying hut, hl1, hsz, hl2, goInt]
  · rename_i b ver off n es' full m xs hc
    split at ha
    · rename_i k hk
      split at ha
      · rename_i hcond
        obtain ⟨c1, c2, c3, c4⟩ := hcond
        subst c1
        cases ha
        obtain ⟨hlx, hfx⟩ := slCells_ok (P := P) h hx hc c4
        obtain ⟨ys, hf, hr⟩ := hfx (min m n) (Nat.min_le_left _ _)
        have hyl := hr.length
        have hmm : min m n * ie.size ≤ m * ie.size := Nat.mul_le_mul_right _ (Nat.min_le_left _ _)
        have hmn : min m n * ie.size ≤ n * ie.size := Nat.mul_le_mul_right _ (Nat.min_le_right _ _)
        simp only [List.length_take, Array.length_toList] at hyl
        cases hd with | sl _ _ _ _ _ _ B o A cap a1 a2 a3 a4 a5 =>
        obtain ⟨cs, e1, fr, hh, hlen, hrv, hfr, hs⟩ := h.cellsAt hk a2
        obtain ⟨hk1, hv⟩ := Hp.at_some hk
        subst hv
        have h1c : (xs.take (min m n * ie.size)).all AV.one = true := by
          have := slCells_all h hc
          simp only [List.all_eq_true] at this ⊢
          intro y hy
          exact this y (List.mem_of_mem_take hy)
        obtain ⟨hf0, hst⟩ := h.write hk1 c2 a2 hh _ _ hr h1c off (by rw [List.length_take]; omega)
        subst hf0
        have hfin : Builtin.firstCells ie.size (Nat.min m n) vx = Builtin.firstCells ie.size (min m n) vx := rfl
        by_cases hcap : cap = 0
        · have hn0 : n = 0 := by omega
          subst hn0
          have hy0 : ys = #[] := Array.eq_empty_of_size_eq_zero (by simp at hyl; omega)
          subst hy0
          have hnoop : w.setRow B (setAllV cs.toList (o + off) (#[] : Array Value).toList).toArray = w := by
            simp only [setAllV, Array.toArray_toList]
            exact setRow_self w B cs e1 (0, 0) hh
          rw [hnoop] at hst
          refine ⟨.int .i64 (min m 0 : Nat), w, G, ?_, Le.refl G, hst, .int _ _⟩
          simp only [Builtin.copy_, List.getElem?_toArray, List.getElem?_cons_zero, List.getElem?_cons_succ, Sem.run_bind, run_underlying hut, Result.andThen_ok, hlx, hsz, hfin, hf, Sem.run_pure, storeCells, goInt]
        · obtain ⟨rfl, hb⟩ := a5 hcap
          have hst2 := run_storeCells_at P B (o + off) e1 ys.toList 0 cs w hh (by simp; omega) (hr.one h1c)
          simp only [Nat.add_zero] at hst2
          rw [setAllV_eq _ _ _ (by simp; omega)] at hst
          refine ⟨.int .i64 (min m n : Nat), _, G, ?_, Le.refl G, hst, .int _ _⟩
          simp only [Builtin.copy_, List.getElem?_toArray, List.getElem?_cons_zero, List.getElem?_cons_succ, Sem.run_bind, run_underlying hut, Result.andThen_ok, hlx, hsz, hfin, hf, Sem.run_pure, hst2, goInt]
      · cases ha
    · cases ha
  · cases ha

theorem sliceS_ok (hT : TOK P T) {t : Nat} {z : ByteArray} {v' : AV} {lo hi : Option AV} {vl vh : Option Value} (hd : Tab.d T t = .str) (hl : ROV G lo vl) (hh : ROV G hi vh) (h : asliceS z lo hi = some v') :
    ∃ v, (Instr.sliceAt t (.string z) vl vh none).run P w = .ok v w ∧ RV G v' v := by
  have hu := desc_str hT hd
  unfold asliceS at h
  split at h
  · rename_i l h' hl1 hh1
    split at h
    · rename_i hc
      obtain ⟨c1, c2, c3⟩ := hc
      cases h
      have b1 : ∀ (c : BoundsCode) (k : IntKind), (Instr.sliceBound (.int k l) h'.toNat c).run P w = .ok l.toNat w := fun c k => sliceBound_ok c1 (by omega)
      have b2 : ∀ (c : BoundsCode) (k : IntKind), (Instr.sliceBound (.int k h') z.size c).run P w = .ok h'.toNat w := fun c k => sliceBound_ok (by omega) (by omega)
      refine ⟨_, ?_, .str _⟩
      rcases bnd_ok hl hl1 with ⟨rfl, rfl⟩ | ⟨k1, rfl⟩ <;> rcases bnd_ok hh hh1 with ⟨rfl, rfl⟩ | ⟨k2, rfl⟩ <;>
        simp [Instr.sliceAt, run_underlying hu, Instr.slice, Instr.sliceBounds, b1, b2] <;> (try (simp at b1; simp [b1]))
    · cases h
  · cases h

end
end Go.Proofs.Ytokadkakmhfdeaa.Pq

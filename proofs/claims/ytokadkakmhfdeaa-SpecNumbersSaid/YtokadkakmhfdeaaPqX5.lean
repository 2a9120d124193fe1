/- Plain law of TileShares, as a whole. -/
import Derived.Test.YtokadkakmhfdeaaPqX4
set_option linter.unusedVariables false
set_option linter.unusedSimpArgs false
namespace Go.Proofs.Ytokadkakmhfdeaa.Pq
open Go.RowKit

theorem six_ok : ∀ m ∈ six, meshOK m = true ∧ 0 < devs m ∧ devs m ≤ 8 ∧ m.length ≤ 3 := by decide
theorem sum_six {m s p : List Int} (hm : m ∈ six) (hs : ∀ x ∈ s, x ∈ lens) (h3 : s.length ≤ 3) (hl : p.length = s.length) (hp : specGo m.length [] p = true) : sumI s m p (devs m).toNat = prodI s * rCopies m p := by
  simp only [six, List.mem_cons, List.not_mem_nil, or_false] at hm
  rcases hm with rfl | rfl | rfl | rfl | rfl | rfl
  · have : (devs [2]).toNat = 2 := by decide
    rw [this]; exact sum2_ s p hs h3 hl hp
  · have : (devs [2, 4]).toNat = 8 := by decide
    rw [this]; exact sum24_ s p hs h3 hl hp
  · have : (devs [3, 2]).toNat = 6 := by decide
    rw [this]; exact sum32_ s p hs h3 hl hp
  · have : (devs [2, 2, 2]).toNat = 8 := by decide
    rw [this]; exact sum222_ s p hs h3 hl hp
  · have : (devs []).toNat = 1 := by decide
    rw [this]; exact sum_ s p hs h3 hl hp
  · have : (devs [5]).toNat = 5 := by decide
    rw [this]; exact sum5_ s p hs h3 hl hp

section
variable {m s p : List Int} (hm : m ∈ six) (hs : ∀ x ∈ s, x ∈ lens) (h3 : s.length ≤ 3) (hl : p.length = s.length) (hp : specGo m.length [] p = true)
include hm hs h3 hl hp
theorem may_six {d : Nat} (hd : (d : Int) < devs m) : mayCut s m p d := by
  refine ⟨shape_3 h3 hs, ?_, by omega, hd⟩
  unfold specOK
  rw [if_neg (by simp [(six_ok m hm).1, hl])]
  exact hp
theorem share_at {d : Nat} (hd : (d : Int) < devs m) :
    (sizeL s m p d).length = s.length ∧ (fromL s m p d).length = s.length ∧ (sizeL s m p 0).length = s.length ∧ (∀ i : Nat, nth (sizeL s m p d) i ≤ nth (sizeL s m p 0) i) ∧ prodW 1 (sizeL s m p d) = prodI (szs m (meshAt m d) s p) ∧ 0 ≤ prodI (szs m (meshAt m d) s p) ∧ prodI (szs m (meshAt m d) s p) ≤ 343 := by
  have hc := may_six hm hs h3 hl hp hd
  have hc0 := may_six hm hs h3 hl hp (d := 0) (six_ok m hm).2.1
  have hk : ∀ k ∈ p, k < m.length := fun k h => (spec_rng hp k h).2
  have e0 : sizeL s m p 0 = szs m (meshAt m 0) s p := sizeL_szs hs hl hc0
  rw [sizeL_szs hs hl hc, e0]
  have hz := prodW_3 (l := szs m (meshAt m d) s p) (by rw [szs_len _ _ _ _ hl.symm]; exact h3) (szs_rng hm hd s p hs hk)
  exact ⟨szs_len _ _ _ _ hl.symm, fromL_len' hl hc, szs_len _ _ _ _ hl.symm, szs_le hm hd s p hs hk, hz⟩
theorem sumD_eq : ∀ d : Nat, (d : Int) ≤ devs m → sumD s m p d = sumI s m p d ∧ 0 ≤ sumI s m p d ∧ sumI s m p d ≤ 343 * d := by
  intro d
  induction d with
  | zero => intro _; simp [sumD, sumI]
  | succ d ih =>
    intro h
    obtain ⟨h1, h2, h4⟩ := ih (by omega)
    obtain ⟨_, _, _, _, g1, g2, g4⟩ := share_at hm hs h3 hl hp (d := d) (by omega)
    have := (six_ok m hm).2.2.1
    simp only [sumD, sumI]
    rw [h1, g1, w_id (by omega)]
    omega
theorem sum_law : sumD s m p (devs m).toNat = w (prodW 1 s * rCopies m p) := by
  have h8 := six_ok m hm
  obtain ⟨h1, h2, h4⟩ := sumD_eq hm hs h3 hl hp (devs m).toNat (by omega)
  have h5 := sum_six hm hs h3 hl hp
  have h6 := prodW_3 h3 fun x hx => lens_rng x (hs x hx)
  rw [h1, h6.1, ← h5, w_id (by omega)]
end
end Go.Proofs.Ytokadkakmhfdeaa.Pq

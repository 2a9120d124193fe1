/- Plain laws: the document's meshes and specs are the program's. -/
import Derived.Test.YtokadkakmhfdeaaPqW7
set_option linter.unusedVariables false
set_option linter.unusedSimpArgs false
namespace Go.Proofs.Ytokadkakmhfdeaa.Pq

theorem rGo_eq : ∀ (l : List Int) (i : Nat) (n : Int), i ≤ 3 → rGo i n l = if 3 < i + l.length then false else meshGo n l := by
  intro l
  induction l with
  | nil => intro i n hi; simp [rGo, meshGo]; omega
  | cons k l ih =>
    intro i n hi
    simp only [rGo, meshGo, List.length_cons]
    by_cases h3 : 3 ≤ i
    · have : (3 : Int) ≤ (i : Int) := by omega
      rw [if_pos (.inl this), if_pos (by omega)]
    · have h3' : ¬ (3 : Int) ≤ (i : Int) := by omega
      by_cases hk : k < 1 ∨ 8 < k
      · rw [if_pos (.inr hk), if_pos hk]; simp
      · rw [if_neg (by simp [h3', hk]), if_neg hk, ih (i + 1) _ (by omega)]
        rw [show i + 1 + l.length = i + (l.length + 1) by omega]
theorem rOK_eq (l : List Int) : rOK l = meshOK l := by
  simp [rOK, meshOK, rGo_eq l 0 1 (by omega)]
theorem rDevs_eq (l : List Int) : rDevs l = devs l := by simp [rDevs, devs, rOK_eq]
theorem idxGo_mem (x : Int) : ∀ (l : List Int) (i : Int), 0 ≤ i → (0 ≤ idxGo x i l ↔ x ∈ l) := by
  intro l
  induction l with
  | nil => intro i _; simp [idxGo]
  | cons a l ih =>
    intro i hi
    simp only [idxGo, List.mem_cons]
    by_cases h : x = a
    · simp [h, hi]
    · simp [h, ih (i + 1) (by omega)]
theorem contains_iff (l : List Int) (x : Int) : contains l x = true ↔ x ∈ l := by
  simp [contains, idxGo_mem x l 0 (by omega)]
theorem anyEq_iff (x : Int) (l : List Int) : anyEq x l = true ↔ x ∈ l := by
  induction l with
  | nil => simp [anyEq]
  | cons a l ih =>
    simp only [anyEq, List.mem_cons]
    by_cases h : a = x
    · simp [h]
    · simp [h, ih, Ne.symm h, fun e : x = a => h e.symm]
theorem specGo_eq (n : Int) : ∀ (l pre : List Int), rSpecGo n pre l = specGo n pre l := by
  intro l
  induction l with
  | nil => intro pre; rfl
  | cons k l ih =>
    intro pre
    simp only [rSpecGo, specGo]
    by_cases h : k < -1 ∨ n ≤ k
    · rw [if_pos h, if_pos h]
    · rw [if_neg h, if_neg h]
      have hc : (0 ≤ k ∧ anyEq k pre = true) ↔ (k ≠ -1 ∧ contains pre k = true) := by
        rw [anyEq_iff, contains_iff]
        constructor
        · rintro ⟨a, b⟩; exact ⟨by omega, b⟩
        · rintro ⟨a, b⟩; exact ⟨by omega, b⟩
      by_cases h2 : k ≠ -1 ∧ contains pre k = true
      · rw [if_pos (hc.2 h2), if_pos h2]
      · rw [if_neg (fun e => h2 (hc.1 e)), if_neg h2, ih]
theorem rSpecOK_eq (sz sp : List Int) (r : Int) : rSpecOK sz sp r = specOK sz sp r := by
  simp only [rSpecOK, specOK, rOK_eq, specGo_eq]
end Go.Proofs.Ytokadkakmhfdeaa.Pq

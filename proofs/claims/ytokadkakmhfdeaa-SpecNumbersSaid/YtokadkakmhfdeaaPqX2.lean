/- Plain law of TileShares: all devices' parts together are the shape's numbers as often as there are copies. -/
import Derived.Test.YtokadkakmhfdeaaPqX1
import Derived.Test.YtokadkakmhfdeaaPqWB
set_option linter.unusedVariables false
set_option linter.unusedSimpArgs false
namespace Go.Proofs.Ytokadkakmhfdeaa.Pq
open Go.RowKit

def six : List (List Int) := [[2], [2, 4], [3, 2], [2, 2, 2], [], [5]]
/-- The tape's numbers are numbers of 64 bits. -/
def In64 (l : List Int) : Prop := ∀ j : Nat, j < l.length → -9223372036854775808 ≤ nth l j ∧ nth l j < 9223372036854775808

theorem next_in {l : List Int} (h : In64 l) (a : Nat) (n : Int) (hn : 1 ≤ n) : 0 ≤ nextOf l a n ∧ nextOf l a n < n := by
  unfold nextOf
  split
  · rename_i h1
    exact tmod_range _ n hn (within_range _ (h a h1.1))
  · omega
theorem lens_mem : ∀ k : Nat, k < 8 → nth lens (k : Int) ∈ lens := by decide
theorem shapeT_len (l : List Int) : ∀ n a, (shapeT l n a).1.length = n := by
  intro n
  induction n with
  | zero => intro a; rfl
  | succ n ih => intro a; simp [shapeT, ih]
theorem shapeT_mem {l : List Int} (h : In64 l) : ∀ n a, ∀ x ∈ (shapeT l n a).1, x ∈ lens := by
  intro n
  induction n with
  | zero => intro a x hx; simp [shapeT] at hx
  | succ n ih =>
    intro a x hx
    simp only [shapeT, List.mem_cons] at hx
    rcases hx with rfl | hx
    · obtain ⟨h1, h2⟩ := next_in h a 8 (by omega)
      have := lens_mem (nextOf l a 8).toNat (by omega)
      rwa [Int.toNat_of_nonneg h1] at this
    · exact ih _ x hx
theorem specT_len (l : List Int) (k : Nat) : ∀ m a us, (specT l k m a us).1.length = m := by
  intro m
  induction m with
  | zero => intro a us; rfl
  | succ m ih =>
    intro a us
    simp only [specT]
    split
    · split
      · split <;> simp [ih]
      · simp [ih]
    · simp [ih]
theorem specT_ok {l : List Int} (h : In64 l) (k : Nat) : ∀ m a us pre, us.length = k → (∀ j : Nat, j < k → us.getD j false = false → (j : Int) ∉ pre) → specGo k pre (specT l k m a us).1 = true := by
  intro m
  induction m with
  | zero => intro a us pre _ _; rfl
  | succ m ih =>
    intro a us pre hl hu
    have none' : ∀ a', specGo k pre (-1 :: (specT l k m a' us).1) = true := by
      intro a'
      simp only [specGo]
      rw [if_neg (by omega), if_neg (by simp)]
      refine ih a' us _ hl fun j hj hf hm => ?_
      rcases List.mem_append.1 hm with hm | hm
      · exact hu j hj hf hm
      · simp at hm
    simp only [specT]
    by_cases hk : 0 < k
    · rw [if_pos hk]
      by_cases hc : nextOf l a 2 = 0
      · rw [if_pos hc]
        obtain ⟨h1, h2⟩ := next_in h (nextAt l a 2) k (by omega)
        generalize nextOf l (nextAt l a 2) k = x at *
        generalize nextAt l (nextAt l a 2) k = a' at *
        obtain ⟨j, rfl⟩ : ∃ j : Nat, x = j := ⟨x.toNat, by omega⟩
        simp only [Int.toNat_natCast]
        have hj : j < k := by omega
        by_cases hus : us.getD j false = true
        · rw [if_pos hus]; exact none' a'
        · rw [if_neg hus]
          have hus' : us.getD j false = false := by simpa using hus
          simp only [specGo]
          rw [if_neg (by omega), if_neg (by rw [contains_iff]; exact fun e => hu j hj hus' e.2)]
          refine ih a' _ _ (by simp [hl]) fun i hi hf hm => ?_
          by_cases hij : j = i
          · subst hij
            simp [List.getD_eq_getElem?_getD, hl, hj] at hf
          · rw [List.getD_eq_getElem?_getD, List.getElem?_set_ne hij] at hf
            rcases List.mem_append.1 hm with hm | hm
            · exact hu i hi (by rw [List.getD_eq_getElem?_getD]; exact hf) hm
            · simp at hm; omega
      · rw [if_neg hc]; exact none' _
    · rw [if_neg hk]; exact none' a

/-! ### the parts of a length -/
/-- How long part c of a length n in k parts is. -/
def cutS (n k c : Int) : Int := w ((cut n k c).2 - (cut n k c).1)
/-- What a device at this place has of a length. -/
def szOf (m at' : List Int) (n k : Int) : Int := if 0 ≤ k then cutS n (nth m k) (nth at' k) else n
def szs (m at' : List Int) : List Int → List Int → List Int
  | n :: s, k :: p => szOf m at' n k :: szs m at' s p
  | _, _ => []
theorem szs_app (m at' : List Int) : ∀ (s p : List Int), s.length = p.length → ∀ a x, szs m at' (s ++ [a]) (p ++ [x]) = szs m at' s p ++ [szOf m at' a x] := by
  intro s
  induction s with
  | nil => intro p h a x; cases p with | nil => rfl | cons _ _ => simp at h
  | cons n s ih =>
    intro p h a x
    cases p with
    | nil => simp at h
    | cons k p => simp [szs, ih p (by simpa using h) a x]
theorem cutsGo_szs (s m at' p : List Int) (hl : s.length = p.length) (hr : ∀ i : Nat, i < s.length → w (nth s i) = nth s i) : ∀ n : Nat, n ≤ p.length → (cutsGo s m at' p n).map (fun q => w (q.2 - q.1)) = szs m at' (s.take n) (p.take n) := by
  intro n
  induction n with
  | zero => intro _; simp [cutsGo, szs]
  | succ n ih =>
    intro hn
    rw [take_nth s n (by omega), take_nth p n (by omega), szs_app _ _ _ _ (by simp; omega), cutsGo, List.map_append, ih (by omega)]
    congr 1
    simp only [List.map_cons, List.map_nil, szOf, cutAt]
    split
    · rfl
    · simp [hr n (by omega)]
theorem szs_len (m at' : List Int) : ∀ (s p : List Int), s.length = p.length → (szs m at' s p).length = s.length := by
  intro s
  induction s with
  | nil => intro p _; rfl
  | cons n s ih =>
    intro p h
    cases p with
    | nil => simp at h
    | cons k p => simp [szs, ih p (by simpa using h)]
theorem lens_rng : ∀ n ∈ lens, 0 ≤ n ∧ n ≤ 7 := by decide
theorem lens_w {s : List Int} (h : ∀ x ∈ s, x ∈ lens) (i : Nat) (hi : i < s.length) : w (nth s i) = nth s i := by
  have hm : nth s i ∈ s := by simp [nth, hi]
  have := lens_rng _ (h _ hm)
  exact w_id (by omega)
theorem sizeL_szs {s m p : List Int} {d : Int} (hs : ∀ x ∈ s, x ∈ lens) (hl : p.length = s.length) (hc : mayCut s m p d) : sizeL s m p d = szs m (meshAt m d) s p := by
  unfold sizeL cutsL
  rw [if_pos hc, cutsGo_szs s m (meshAt m d) p hl.symm (lens_w hs) p.length (Nat.le_refl _)]
  rw [List.take_of_length_le (by omega), List.take_of_length_le (by omega)]
theorem fromL_len' {s m p : List Int} {d : Int} (hl : p.length = s.length) (hc : mayCut s m p d) : (fromL s m p d).length = s.length := by
  unfold fromL cutsL
  rw [if_pos hc, List.length_map, cutsGo_len, hl]

/-! ### what the meshes' parts are -/
def chk (m : List Int) : Bool := (List.range (devs m).toNat).all fun d => lens.all fun n => (List.range m.length).all fun k => decide (0 ≤ szOf m (meshAt m d) n k ∧ szOf m (meshAt m d) n k ≤ szOf m (meshAt m 0) n k ∧ szOf m (meshAt m 0) n k ≤ 7)
theorem chk_six : six.all chk = true := by decide
theorem sum2 : ∀ a ∈ lens, cutS a 2 0 + cutS a 2 1 = a := by decide
theorem sum3 : ∀ a ∈ lens, cutS a 3 0 + cutS a 3 1 + cutS a 3 2 = a := by decide
theorem sum4 : ∀ a ∈ lens, cutS a 4 0 + cutS a 4 1 + cutS a 4 2 + cutS a 4 3 = a := by decide
theorem sum5 : ∀ a ∈ lens, cutS a 5 0 + cutS a 5 1 + cutS a 5 2 + cutS a 5 3 + cutS a 5 4 = a := by decide
end Go.Proofs.Ytokadkakmhfdeaa.Pq

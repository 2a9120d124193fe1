/- Plain law of TileShares: the sums. -/
import Derived.Test.YtokadkakmhfdeaaPqX2
set_option linter.unusedVariables false
set_option linter.unusedSimpArgs false
namespace Go.Proofs.Ytokadkakmhfdeaa.Pq
open Go.RowKit

def prodI : List Int → Int
  | [] => 1
  | k :: l => k * prodI l
theorem mul_rng {a b A B : Int} (ha : 0 ≤ a ∧ a ≤ A) (hb : 0 ≤ b ∧ b ≤ B) : 0 ≤ a * b ∧ a * b ≤ A * B :=
  ⟨Int.mul_nonneg ha.1 hb.1, Int.mul_le_mul ha.2 hb.2 hb.1 (by omega)⟩
theorem prodW_3 {l : List Int} (h3 : l.length ≤ 3) (h : ∀ x ∈ l, 0 ≤ x ∧ x ≤ 7) : prodW 1 l = prodI l ∧ 0 ≤ prodI l ∧ prodI l ≤ 343 := by
  match l, h3, h with
  | [], _, _ => simp [prodW, prodI]
  | [a], _, h =>
    have ha := h a (by simp)
    simp only [prodW, prodI, Int.one_mul, Int.mul_one]
    rw [w_id (by omega)]
    omega
  | [a, b], _, h =>
    have ha := h a (by simp)
    have hb := h b (by simp)
    have hab := mul_rng ha hb
    simp only [prodW, prodI, Int.one_mul, Int.mul_one]
    rw [w_id (x := a) (by omega), w_id (by omega)]
    omega
  | [a, b, c], _, h =>
    have ha := h a (by simp)
    have hb := h b (by simp)
    have hc := h c (by simp)
    have hab := mul_rng ha hb
    have habc := mul_rng hab hc
    simp only [prodW, prodI, Int.one_mul, Int.mul_one]
    rw [w_id (x := a) (by omega), w_id (x := a * b) (by omega), w_id (by omega), ← Int.mul_assoc]
    omega
  | _ :: _ :: _ :: _ :: _, h3, _ => simp at h3
theorem shape_3 {s : List Int} (h3 : s.length ≤ 3) (h : ∀ x ∈ s, x ∈ lens) : shapeOK s = true := by
  have hr : ∀ x ∈ s, 0 ≤ x ∧ x ≤ 7 := fun x hx => lens_rng x (h x hx)
  have hp := prodW_3 h3 hr
  have key : ∀ (l : List Int) (n : Int), (∀ x ∈ l, 0 ≤ x ∧ x ≤ 7) → shapeGo n l = decide (prodW n l ≤ 4096) := by
    intro l
    induction l with
    | nil => intro n _; rfl
    | cons k l ih =>
      intro n hl
      have hk := hl k (by simp)
      simp only [shapeGo, prodW]
      rw [if_neg (by omega)]
      exact ih _ fun x hx => hl x (by simp [hx])
  unfold shapeOK
  rw [if_neg (by omega), key s 1 hr]
  simp only [decide_eq_true_eq]
  omega

/-- All devices' parts, with the machine's sums. -/
noncomputable def sumD (s m p : List Int) : Nat → Int
  | 0 => 0
  | d + 1 => w (sumD s m p d + prodW 1 (sizeL s m p d))
/-- The same, with whole numbers. -/
def sumI (s m p : List Int) : Nat → Int
  | 0 => 0
  | d + 1 => sumI s m p d + prodI (szs m (meshAt m d) s p)
theorem chk_at {m : List Int} (hm : m ∈ six) {d : Nat} (hd : (d : Int) < devs m) {n : Int} (hn : n ∈ lens) {k : Nat} (hk : k < m.length) :
    0 ≤ szOf m (meshAt m d) n k ∧ szOf m (meshAt m d) n k ≤ szOf m (meshAt m 0) n k ∧ szOf m (meshAt m 0) n k ≤ 7 := by
  have h1 := List.all_eq_true.1 chk_six m hm
  have h2 := List.all_eq_true.1 h1 d (by simp; omega)
  have h3 := List.all_eq_true.1 h2 n hn
  have h4 := List.all_eq_true.1 h3 k (by simpa using hk)
  simpa using h4
theorem sz_rng {m : List Int} (hm : m ∈ six) {d : Nat} (hd : (d : Int) < devs m) {n : Int} (hn : n ∈ lens) {k : Int} (hk : k < m.length) :
    0 ≤ szOf m (meshAt m d) n k ∧ szOf m (meshAt m d) n k ≤ szOf m (meshAt m 0) n k ∧ szOf m (meshAt m 0) n k ≤ 7 := by
  by_cases h0 : 0 ≤ k
  · obtain ⟨j, rfl⟩ : ∃ j : Nat, k = j := ⟨k.toNat, by omega⟩
    exact chk_at hm hd hn (by omega)
  · simp only [szOf, if_neg h0]
    have := lens_rng n hn
    omega
theorem szs_rng {m : List Int} (hm : m ∈ six) {d : Nat} (hd : (d : Int) < devs m) : ∀ (s p : List Int), (∀ x ∈ s, x ∈ lens) → (∀ k ∈ p, k < m.length) → ∀ x ∈ szs m (meshAt m d) s p, 0 ≤ x ∧ x ≤ 7 := by
  intro s
  induction s with
  | nil => intro p _ _ x hx; simp [szs] at hx
  | cons n s ih =>
    intro p hs hp x hx
    cases p with
    | nil => simp [szs] at hx
    | cons k p =>
      simp only [szs, List.mem_cons] at hx
      rcases hx with rfl | hx
      · have := sz_rng hm hd (hs n (by simp)) (hp k (by simp))
        omega
      · exact ih p (fun y hy => hs y (by simp [hy])) (fun y hy => hp y (by simp [hy])) x hx
theorem szs_le {m : List Int} (hm : m ∈ six) {d : Nat} (hd : (d : Int) < devs m) : ∀ (s p : List Int), (∀ x ∈ s, x ∈ lens) → (∀ k ∈ p, k < m.length) → ∀ i : Nat, nth (szs m (meshAt m d) s p) i ≤ nth (szs m (meshAt m 0) s p) i := by
  intro s
  induction s with
  | nil => intro p _ _ i; simp [szs]
  | cons n s ih =>
    intro p hs hp i
    cases p with
    | nil => simp [szs]
    | cons k p =>
      cases i with
      | zero => simpa [szs, nth] using (sz_rng hm hd (hs n (by simp)) (hp k (by simp))).2.1
      | succ i =>
        have := ih p (fun y hy => hs y (by simp [hy])) (fun y hy => hp y (by simp [hy])) i
        simpa [szs, nth] using this

theorem fin {X S c' c : Int} (hc : c' = c) (h : X = S * c) : X = S * c' := by rw [hc, h]
theorem spec_rng {p : List Int} {n : Int} (h : specGo n [] p = true) : ∀ k ∈ p, -1 ≤ k ∧ k < n := by
  intro k hk
  obtain ⟨i, hi, rfl⟩ := List.getElem_of_mem hk
  rw [← specGo_eq] at h
  have := rSpecGo_lt p [] h i hi
  simpa [nth, hi] using this
end Go.Proofs.Ytokadkakmhfdeaa.Pq

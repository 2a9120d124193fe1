/- Plain law of TileShares: mesh by mesh. -/
import Derived.Test.YtokadkakmhfdeaaPqX3
set_option linter.unusedVariables false
set_option linter.unusedSimpArgs false
namespace Go.Proofs.Ytokadkakmhfdeaa.Pq
open Go.RowKit

theorem at2_0 : meshAt [2] 0 = [0] := by decide
theorem at2_1 : meshAt [2] 1 = [1] := by decide
theorem un2 (s p : List Int) : sumI s [2] p 2 = 0 + prodI (szs [2] [0] s p) + prodI (szs [2] [1] s p) := by
  simp [sumI, at2_0, at2_1]
set_option maxHeartbeats 1000000 in
theorem sum2_ (s p : List Int) (hs : ∀ x ∈ s, x ∈ lens) (h3 : s.length ≤ 3) (hl : p.length = s.length) (hp : specGo 1 [] p = true) : sumI s [2] p 2 = prodI s * rCopies [2] p := by
  rw [un2]
  match s, p, hs, h3, hl, hp with
  | [], [], hs, _, _, hp =>
    first | exact absurd hp (by decide) | (refine fin (c := 2) (by decide) ?_; simp [szs, szOf, nth, prodI] <;> grind) | (refine fin (c := 1) (by decide) ?_; simp [szs, szOf, nth, prodI] <;> grind)
  | [a], [x], hs, _, _, hp =>
    have hx := spec_rng hp x (by simp)
    have hx : x = -1 ∨ x = 0 := by omega
    have s2a := sum2 a (hs a (by simp))
    clear hs
    rcases hx with rfl | rfl <;> (first | exact absurd hp (by decide) | (refine fin (c := 2) (by decide) ?_; simp [szs, szOf, nth, prodI] <;> grind) | (refine fin (c := 1) (by decide) ?_; simp [szs, szOf, nth, prodI] <;> grind))
  | [a, b], [x, y], hs, _, _, hp =>
    have hx := spec_rng hp x (by simp)
    have hx : x = -1 ∨ x = 0 := by omega
    have s2a := sum2 a (hs a (by simp))
    have hy := spec_rng hp y (by simp)
    have hy : y = -1 ∨ y = 0 := by omega
    have s2b := sum2 b (hs b (by simp))
    clear hs
    rcases hx with rfl | rfl <;> rcases hy with rfl | rfl <;> (first | exact absurd hp (by decide) | (refine fin (c := 2) (by decide) ?_; simp [szs, szOf, nth, prodI] <;> grind) | (refine fin (c := 1) (by decide) ?_; simp [szs, szOf, nth, prodI] <;> grind))
  | [a, b, c], [x, y, z], hs, _, _, hp =>
    have hx := spec_rng hp x (by simp)
    have hx : x = -1 ∨ x = 0 := by omega
    have s2a := sum2 a (hs a (by simp))
    have hy := spec_rng hp y (by simp)
    have hy : y = -1 ∨ y = 0 := by omega
    have s2b := sum2 b (hs b (by simp))
    have hz := spec_rng hp z (by simp)
    have hz : z = -1 ∨ z = 0 := by omega
    have s2c := sum2 c (hs c (by simp))
    clear hs
    rcases hx with rfl | rfl <;> rcases hy with rfl | rfl <;> rcases hz with rfl | rfl <;> (first | exact absurd hp (by decide) | (refine fin (c := 2) (by decide) ?_; simp [szs, szOf, nth, prodI] <;> grind) | (refine fin (c := 1) (by decide) ?_; simp [szs, szOf, nth, prodI] <;> grind))
  | _ :: _ :: _ :: _ :: _, _, _, h3, _, _ => simp at h3

theorem at24_0 : meshAt [2, 4] 0 = [0, 0] := by decide
theorem at24_1 : meshAt [2, 4] 1 = [0, 1] := by decide
theorem at24_2 : meshAt [2, 4] 2 = [0, 2] := by decide
theorem at24_3 : meshAt [2, 4] 3 = [0, 3] := by decide
theorem at24_4 : meshAt [2, 4] 4 = [1, 0] := by decide
theorem at24_5 : meshAt [2, 4] 5 = [1, 1] := by decide
theorem at24_6 : meshAt [2, 4] 6 = [1, 2] := by decide
theorem at24_7 : meshAt [2, 4] 7 = [1, 3] := by decide
theorem un24 (s p : List Int) : sumI s [2, 4] p 8 = 0 + prodI (szs [2, 4] [0, 0] s p) + prodI (szs [2, 4] [0, 1] s p) + prodI (szs [2, 4] [0, 2] s p) + prodI (szs [2, 4] [0, 3] s p) + prodI (szs [2, 4] [1, 0] s p) + prodI (szs [2, 4] [1, 1] s p) + prodI (szs [2, 4] [1, 2] s p) + prodI (szs [2, 4] [1, 3] s p) := by
  simp [sumI, at24_0, at24_1, at24_2, at24_3, at24_4, at24_5, at24_6, at24_7]
set_option maxHeartbeats 1000000 in
theorem sum24_ (s p : List Int) (hs : ∀ x ∈ s, x ∈ lens) (h3 : s.length ≤ 3) (hl : p.length = s.length) (hp : specGo 2 [] p = true) : sumI s [2, 4] p 8 = prodI s * rCopies [2, 4] p := by
  rw [un24]
  match s, p, hs, h3, hl, hp with
  | [], [], hs, _, _, hp =>
    first | exact absurd hp (by decide) | (refine fin (c := 8) (by decide) ?_; simp [szs, szOf, nth, prodI] <;> grind) | (refine fin (c := 4) (by decide) ?_; simp [szs, szOf, nth, prodI] <;> grind) | (refine fin (c := 2) (by decide) ?_; simp [szs, szOf, nth, prodI] <;> grind) | (refine fin (c := 1) (by decide) ?_; simp [szs, szOf, nth, prodI] <;> grind)
  | [a], [x], hs, _, _, hp =>
    have hx := spec_rng hp x (by simp)
    have hx : x = -1 ∨ x = 0 ∨ x = 1 := by omega
    have s2a := sum2 a (hs a (by simp))
    have s4a := sum4 a (hs a (by simp))
    clear hs
    rcases hx with rfl | rfl | rfl <;> (first | exact absurd hp (by decide) | (refine fin (c := 8) (by decide) ?_; simp [szs, szOf, nth, prodI] <;> grind) | (refine fin (c := 4) (by decide) ?_; simp [szs, szOf, nth, prodI] <;> grind) | (refine fin (c := 2) (by decide) ?_; simp [szs, szOf, nth, prodI] <;> grind) | (refine fin (c := 1) (by decide) ?_; simp [szs, szOf, nth, prodI] <;> grind))
  | [a, b], [x, y], hs, _, _, hp =>
    have hx := spec_rng hp x (by simp)
    have hx : x = -1 ∨ x = 0 ∨ x = 1 := by omega
    have s2a := sum2 a (hs a (by simp))
    have s4a := sum4 a (hs a (by simp))
    have hy := spec_rng hp y (by simp)
    have hy : y = -1 ∨ y = 0 ∨ y = 1 := by omega
    have s2b := sum2 b (hs b (by simp))
    have s4b := sum4 b (hs b (by simp))
    clear hs
    rcases hx with rfl | rfl | rfl <;> rcases hy with rfl | rfl | rfl <;> (first | exact absurd hp (by decide) | (refine fin (c := 8) (by decide) ?_; simp [szs, szOf, nth, prodI] <;> grind) | (refine fin (c := 4) (by decide) ?_; simp [szs, szOf, nth, prodI] <;> grind) | (refine fin (c := 2) (by decide) ?_; simp [szs, szOf, nth, prodI] <;> grind) | (refine fin (c := 1) (by decide) ?_; simp [szs, szOf, nth, prodI] <;> grind))
  | [a, b, c], [x, y, z], hs, _, _, hp =>
    have hx := spec_rng hp x (by simp)
    have hx : x = -1 ∨ x = 0 ∨ x = 1 := by omega
    have s2a := sum2 a (hs a (by simp))
    have s4a := sum4 a (hs a (by simp))
    have hy := spec_rng hp y (by simp)
    have hy : y = -1 ∨ y = 0 ∨ y = 1 := by omega
    have s2b := sum2 b (hs b (by simp))
    have s4b := sum4 b (hs b (by simp))
    have hz := spec_rng hp z (by simp)
    have hz : z = -1 ∨ z = 0 ∨ z = 1 := by omega
    have s2c := sum2 c (hs c (by simp))
    have s4c := sum4 c (hs c (by simp))
    clear hs
    rcases hx with rfl | rfl | rfl <;> rcases hy with rfl | rfl | rfl <;> rcases hz with rfl | rfl | rfl <;> (first | exact absurd hp (by decide) | (refine fin (c := 8) (by decide) ?_; simp [szs, szOf, nth, prodI] <;> grind) | (refine fin (c := 4) (by decide) ?_; simp [szs, szOf, nth, prodI] <;> grind) | (refine fin (c := 2) (by decide) ?_; simp [szs, szOf, nth, prodI] <;> grind) | (refine fin (c := 1) (by decide) ?_; simp [szs, szOf, nth, prodI] <;> grind))
  | _ :: _ :: _ :: _ :: _, _, _, h3, _, _ => simp at h3

theorem at32_0 : meshAt [3, 2] 0 = [0, 0] := by decide
theorem at32_1 : meshAt [3, 2] 1 = [0, 1] := by decide
theorem at32_2 : meshAt [3, 2] 2 = [1, 0] := by decide
theorem at32_3 : meshAt [3, 2] 3 = [1, 1] := by decide
theorem at32_4 : meshAt [3, 2] 4 = [2, 0] := by decide
theorem at32_5 : meshAt [3, 2] 5 = [2, 1] := by decide
theorem un32 (s p : List Int) : sumI s [3, 2] p 6 = 0 + prodI (szs [3, 2] [0, 0] s p) + prodI (szs [3, 2] [0, 1] s p) + prodI (szs [3, 2] [1, 0] s p) + prodI (szs [3, 2] [1, 1] s p) + prodI (szs [3, 2] [2, 0] s p) + prodI (szs [3, 2] [2, 1] s p) := by
  simp [sumI, at32_0, at32_1, at32_2, at32_3, at32_4, at32_5]
set_option maxHeartbeats 1000000 in
theorem sum32_ (s p : List Int) (hs : ∀ x ∈ s, x ∈ lens) (h3 : s.length ≤ 3) (hl : p.length = s.length) (hp : specGo 2 [] p = true) : sumI s [3, 2] p 6 = prodI s * rCopies [3, 2] p := by
  rw [un32]
  match s, p, hs, h3, hl, hp with
  | [], [], hs, _, _, hp =>
    first | exact absurd hp (by decide) | (refine fin (c := 6) (by decide) ?_; simp [szs, szOf, nth, prodI] <;> grind) | (refine fin (c := 2) (by decide) ?_; simp [szs, szOf, nth, prodI] <;> grind) | (refine fin (c := 3) (by decide) ?_; simp [szs, szOf, nth, prodI] <;> grind) | (refine fin (c := 1) (by decide) ?_; simp [szs, szOf, nth, prodI] <;> grind)
  | [a], [x], hs, _, _, hp =>
    have hx := spec_rng hp x (by simp)
    have hx : x = -1 ∨ x = 0 ∨ x = 1 := by omega
    have s2a := sum2 a (hs a (by simp))
    have s3a := sum3 a (hs a (by simp))
    clear hs
    rcases hx with rfl | rfl | rfl <;> (first | exact absurd hp (by decide) | (refine fin (c := 6) (by decide) ?_; simp [szs, szOf, nth, prodI] <;> grind) | (refine fin (c := 2) (by decide) ?_; simp [szs, szOf, nth, prodI] <;> grind) | (refine fin (c := 3) (by decide) ?_; simp [szs, szOf, nth, prodI] <;> grind) | (refine fin (c := 1) (by decide) ?_; simp [szs, szOf, nth, prodI] <;> grind))
  | [a, b], [x, y], hs, _, _, hp =>
    have hx := spec_rng hp x (by simp)
    have hx : x = -1 ∨ x = 0 ∨ x = 1 := by omega
    have s2a := sum2 a (hs a (by simp))
    have s3a := sum3 a (hs a (by simp))
    have hy := spec_rng hp y (by simp)
    have hy : y = -1 ∨ y = 0 ∨ y = 1 := by omega
    have s2b := sum2 b (hs b (by simp))
    have s3b := sum3 b (hs b (by simp))
    clear hs
    rcases hx with rfl | rfl | rfl <;> rcases hy with rfl | rfl | rfl <;> (first | exact absurd hp (by decide) | (refine fin (c := 6) (by decide) ?_; simp [szs, szOf, nth, prodI] <;> grind) | (refine fin (c := 2) (by decide) ?_; simp [szs, szOf, nth, prodI] <;> grind) | (refine fin (c := 3) (by decide) ?_; simp [szs, szOf, nth, prodI] <;> grind) | (refine fin (c := 1) (by decide) ?_; simp [szs, szOf, nth, prodI] <;> grind))
  | [a, b, c], [x, y, z], hs, _, _, hp =>
    have hx := spec_rng hp x (by simp)
    have hx : x = -1 ∨ x = 0 ∨ x = 1 := by omega
    have s2a := sum2 a (hs a (by simp))
    have s3a := sum3 a (hs a (by simp))
    have hy := spec_rng hp y (by simp)
    have hy : y = -1 ∨ y = 0 ∨ y = 1 := by omega
    have s2b := sum2 b (hs b (by simp))
    have s3b := sum3 b (hs b (by simp))
    have hz := spec_rng hp z (by simp)
    have hz : z = -1 ∨ z = 0 ∨ z = 1 := by omega
    have s2c := sum2 c (hs c (by simp))
    have s3c := sum3 c (hs c (by simp))
    clear hs
    rcases hx with rfl | rfl | rfl <;> rcases hy with rfl | rfl | rfl <;> rcases hz with rfl | rfl | rfl <;> (first | exact absurd hp (by decide) | (refine fin (c := 6) (by decide) ?_; simp [szs, szOf, nth, prodI] <;> grind) | (refine fin (c := 2) (by decide) ?_; simp [szs, szOf, nth, prodI] <;> grind) | (refine fin (c := 3) (by decide) ?_; simp [szs, szOf, nth, prodI] <;> grind) | (refine fin (c := 1) (by decide) ?_; simp [szs, szOf, nth, prodI] <;> grind))
  | _ :: _ :: _ :: _ :: _, _, _, h3, _, _ => simp at h3

theorem at222_0 : meshAt [2, 2, 2] 0 = [0, 0, 0] := by decide
theorem at222_1 : meshAt [2, 2, 2] 1 = [0, 0, 1] := by decide
theorem at222_2 : meshAt [2, 2, 2] 2 = [0, 1, 0] := by decide
theorem at222_3 : meshAt [2, 2, 2] 3 = [0, 1, 1] := by decide
theorem at222_4 : meshAt [2, 2, 2] 4 = [1, 0, 0] := by decide
theorem at222_5 : meshAt [2, 2, 2] 5 = [1, 0, 1] := by decide
theorem at222_6 : meshAt [2, 2, 2] 6 = [1, 1, 0] := by decide
theorem at222_7 : meshAt [2, 2, 2] 7 = [1, 1, 1] := by decide
theorem un222 (s p : List Int) : sumI s [2, 2, 2] p 8 = 0 + prodI (szs [2, 2, 2] [0, 0, 0] s p) + prodI (szs [2, 2, 2] [0, 0, 1] s p) + prodI (szs [2, 2, 2] [0, 1, 0] s p) + prodI (szs [2, 2, 2] [0, 1, 1] s p) + prodI (szs [2, 2, 2] [1, 0, 0] s p) + prodI (szs [2, 2, 2] [1, 0, 1] s p) + prodI (szs [2, 2, 2] [1, 1, 0] s p) + prodI (szs [2, 2, 2] [1, 1, 1] s p) := by
  simp [sumI, at222_0, at222_1, at222_2, at222_3, at222_4, at222_5, at222_6, at222_7]
set_option maxHeartbeats 1000000 in
theorem sum222_ (s p : List Int) (hs : ∀ x ∈ s, x ∈ lens) (h3 : s.length ≤ 3) (hl : p.length = s.length) (hp : specGo 3 [] p = true) : sumI s [2, 2, 2] p 8 = prodI s * rCopies [2, 2, 2] p := by
  rw [un222]
  match s, p, hs, h3, hl, hp with
  | [], [], hs, _, _, hp =>
    first | exact absurd hp (by decide) | (refine fin (c := 8) (by decide) ?_; simp [szs, szOf, nth, prodI] <;> grind) | (refine fin (c := 4) (by decide) ?_; simp [szs, szOf, nth, prodI] <;> grind) | (refine fin (c := 2) (by decide) ?_; simp [szs, szOf, nth, prodI] <;> grind) | (refine fin (c := 1) (by decide) ?_; simp [szs, szOf, nth, prodI] <;> grind)
  | [a], [x], hs, _, _, hp =>
    have hx := spec_rng hp x (by simp)
    have hx : x = -1 ∨ x = 0 ∨ x = 1 ∨ x = 2 := by omega
    have s2a := sum2 a (hs a (by simp))
    clear hs
    rcases hx with rfl | rfl | rfl | rfl <;> (first | exact absurd hp (by decide) | (refine fin (c := 8) (by decide) ?_; simp [szs, szOf, nth, prodI] <;> grind) | (refine fin (c := 4) (by decide) ?_; simp [szs, szOf, nth, prodI] <;> grind) | (refine fin (c := 2) (by decide) ?_; simp [szs, szOf, nth, prodI] <;> grind) | (refine fin (c := 1) (by decide) ?_; simp [szs, szOf, nth, prodI] <;> grind))
  | [a, b], [x, y], hs, _, _, hp =>
    have hx := spec_rng hp x (by simp)
    have hx : x = -1 ∨ x = 0 ∨ x = 1 ∨ x = 2 := by omega
    have s2a := sum2 a (hs a (by simp))
    have hy := spec_rng hp y (by simp)
    have hy : y = -1 ∨ y = 0 ∨ y = 1 ∨ y = 2 := by omega
    have s2b := sum2 b (hs b (by simp))
    clear hs
    rcases hx with rfl | rfl | rfl | rfl <;> rcases hy with rfl | rfl | rfl | rfl <;> (first | exact absurd hp (by decide) | (refine fin (c := 8) (by decide) ?_; simp [szs, szOf, nth, prodI] <;> grind) | (refine fin (c := 4) (by decide) ?_; simp [szs, szOf, nth, prodI] <;> grind) | (refine fin (c := 2) (by decide) ?_; simp [szs, szOf, nth, prodI] <;> grind) | (refine fin (c := 1) (by decide) ?_; simp [szs, szOf, nth, prodI] <;> grind))
  | [a, b, c], [x, y, z], hs, _, _, hp =>
    have hx := spec_rng hp x (by simp)
    have hx : x = -1 ∨ x = 0 ∨ x = 1 ∨ x = 2 := by omega
    have s2a := sum2 a (hs a (by simp))
    have hy := spec_rng hp y (by simp)
    have hy : y = -1 ∨ y = 0 ∨ y = 1 ∨ y = 2 := by omega
    have s2b := sum2 b (hs b (by simp))
    have hz := spec_rng hp z (by simp)
    have hz : z = -1 ∨ z = 0 ∨ z = 1 ∨ z = 2 := by omega
    have s2c := sum2 c (hs c (by simp))
    clear hs
    rcases hx with rfl | rfl | rfl | rfl <;> rcases hy with rfl | rfl | rfl | rfl <;> rcases hz with rfl | rfl | rfl | rfl <;> (first | exact absurd hp (by decide) | (refine fin (c := 8) (by decide) ?_; simp [szs, szOf, nth, prodI] <;> grind) | (refine fin (c := 4) (by decide) ?_; simp [szs, szOf, nth, prodI] <;> grind) | (refine fin (c := 2) (by decide) ?_; simp [szs, szOf, nth, prodI] <;> grind) | (refine fin (c := 1) (by decide) ?_; simp [szs, szOf, nth, prodI] <;> grind))
  | _ :: _ :: _ :: _ :: _, _, _, h3, _, _ => simp at h3

theorem at_0 : meshAt [] 0 = [] := by decide
theorem un (s p : List Int) : sumI s [] p 1 = 0 + prodI (szs [] [] s p) := by
  simp [sumI, at_0]
set_option maxHeartbeats 1000000 in
theorem sum_ (s p : List Int) (hs : ∀ x ∈ s, x ∈ lens) (h3 : s.length ≤ 3) (hl : p.length = s.length) (hp : specGo 0 [] p = true) : sumI s [] p 1 = prodI s * rCopies [] p := by
  rw [un]
  match s, p, hs, h3, hl, hp with
  | [], [], hs, _, _, hp =>
    first | exact absurd hp (by decide) | (refine fin (c := 1) (by decide) ?_; simp [szs, szOf, nth, prodI] <;> grind)
  | [a], [x], hs, _, _, hp =>
    have hx := spec_rng hp x (by simp)
    have hx : x = -1 := by omega
    clear hs
    rcases hx with rfl <;> (first | exact absurd hp (by decide) | (refine fin (c := 1) (by decide) ?_; simp [szs, szOf, nth, prodI] <;> grind))
  | [a, b], [x, y], hs, _, _, hp =>
    have hx := spec_rng hp x (by simp)
    have hx : x = -1 := by omega
    have hy := spec_rng hp y (by simp)
    have hy : y = -1 := by omega
    clear hs
    rcases hx with rfl <;> rcases hy with rfl <;> (first | exact absurd hp (by decide) | (refine fin (c := 1) (by decide) ?_; simp [szs, szOf, nth, prodI] <;> grind))
  | [a, b, c], [x, y, z], hs, _, _, hp =>
    have hx := spec_rng hp x (by simp)
    have hx : x = -1 := by omega
    have hy := spec_rng hp y (by simp)
    have hy : y = -1 := by omega
    have hz := spec_rng hp z (by simp)
    have hz : z = -1 := by omega
    clear hs
    rcases hx with rfl <;> rcases hy with rfl <;> rcases hz with rfl <;> (first | exact absurd hp (by decide) | (refine fin (c := 1) (by decide) ?_; simp [szs, szOf, nth, prodI] <;> grind))
  | _ :: _ :: _ :: _ :: _, _, _, h3, _, _ => simp at h3

theorem at5_0 : meshAt [5] 0 = [0] := by decide
theorem at5_1 : meshAt [5] 1 = [1] := by decide
theorem at5_2 : meshAt [5] 2 = [2] := by decide
theorem at5_3 : meshAt [5] 3 = [3] := by decide
theorem at5_4 : meshAt [5] 4 = [4] := by decide
theorem un5 (s p : List Int) : sumI s [5] p 5 = 0 + prodI (szs [5] [0] s p) + prodI (szs [5] [1] s p) + prodI (szs [5] [2] s p) + prodI (szs [5] [3] s p) + prodI (szs [5] [4] s p) := by
  simp [sumI, at5_0, at5_1, at5_2, at5_3, at5_4]
set_option maxHeartbeats 1000000 in
theorem sum5_ (s p : List Int) (hs : ∀ x ∈ s, x ∈ lens) (h3 : s.length ≤ 3) (hl : p.length = s.length) (hp : specGo 1 [] p = true) : sumI s [5] p 5 = prodI s * rCopies [5] p := by
  rw [un5]
  match s, p, hs, h3, hl, hp with
  | [], [], hs, _, _, hp =>
    first | exact absurd hp (by decide) | (refine fin (c := 5) (by decide) ?_; simp [szs, szOf, nth, prodI] <;> grind) | (refine fin (c := 1) (by decide) ?_; simp [szs, szOf, nth, prodI] <;> grind)
  | [a], [x], hs, _, _, hp =>
    have hx := spec_rng hp x (by simp)
    have hx : x = -1 ∨ x = 0 := by omega
    have s5a := sum5 a (hs a (by simp))
    clear hs
    rcases hx with rfl | rfl <;> (first | exact absurd hp (by decide) | (refine fin (c := 5) (by decide) ?_; simp [szs, szOf, nth, prodI] <;> grind) | (refine fin (c := 1) (by decide) ?_; simp [szs, szOf, nth, prodI] <;> grind))
  | [a, b], [x, y], hs, _, _, hp =>
    have hx := spec_rng hp x (by simp)
    have hx : x = -1 ∨ x = 0 := by omega
    have s5a := sum5 a (hs a (by simp))
    have hy := spec_rng hp y (by simp)
    have hy : y = -1 ∨ y = 0 := by omega
    have s5b := sum5 b (hs b (by simp))
    clear hs
    rcases hx with rfl | rfl <;> rcases hy with rfl | rfl <;> (first | exact absurd hp (by decide) | (refine fin (c := 5) (by decide) ?_; simp [szs, szOf, nth, prodI] <;> grind) | (refine fin (c := 1) (by decide) ?_; simp [szs, szOf, nth, prodI] <;> grind))
  | [a, b, c], [x, y, z], hs, _, _, hp =>
    have hx := spec_rng hp x (by simp)
    have hx : x = -1 ∨ x = 0 := by omega
    have s5a := sum5 a (hs a (by simp))
    have hy := spec_rng hp y (by simp)
    have hy : y = -1 ∨ y = 0 := by omega
    have s5b := sum5 b (hs b (by simp))
    have hz := spec_rng hp z (by simp)
    have hz : z = -1 ∨ z = 0 := by omega
    have s5c := sum5 c (hs c (by simp))
    clear hs
    rcases hx with rfl | rfl <;> rcases hy with rfl | rfl <;> rcases hz with rfl | rfl <;> (first | exact absurd hp (by decide) | (refine fin (c := 5) (by decide) ?_; simp [szs, szOf, nth, prodI] <;> grind) | (refine fin (c := 1) (by decide) ?_; simp [szs, szOf, nth, prodI] <;> grind))
  | _ :: _ :: _ :: _ :: _, _, _, h3, _, _ => simp at h3

end Go.Proofs.Ytokadkakmhfdeaa.Pq

/- Made lists of any single cells; two of them side by side. -/
import Derived.Test.YtokadkakmhfdeaaPqV
set_option linter.unusedVariables false
set_option linter.unusedSimpArgs false
namespace Go.Proofs.Ytokadkakmhfdeaa.Pq
open Go.RowKit

/-- A made list in block b: n cells. -/
structure OwnC (H0 H : Hp) (b ver : Nat) (cs : List AV) : Prop where
  new : H0.c ≤ ver
  at' : H.at b ver = some ⟨ver, cs, true, true⟩
def slC (b ver n : Nat) : AV := .sl b ver 0 n 1 true
theorem OwnC.ints {H0 H : Hp} {b ver : Nat} {l : List Int} (h : OwnC H0 H b ver (l.map (.int .i64))) (hl : l.length ≤ 1152921504606846976) : ints H (slC b ver l.length) = some l :=
  ints_of_ownF ⟨b, ver, rfl, h.new, h.at'⟩ hl
theorem OwnC.f {H0 H : Hp} {b ver : Nat} {l : List Int} (h : OwnC H0 H b ver (l.map (.int .i64))) : OwnF H0 H (slC b ver l.length) l := ⟨b, ver, rfl, h.new, h.at'⟩
theorem idx_gen (b ver n : Nat) (k : IntKind) (j : Int) : aidxS 1 (slC b ver n) (.int k j) = if 0 ≤ j ∧ j < n then some (.ptr b ver j.toNat) else none := by
  simp [aidxS, slC]
theorem load_gen {H0 H : Hp} {b ver t : Nat} {i : TI} {cs : List AV} (h : OwnC H0 H b ver cs) (ht : T t = some i) (hd : (match i.d with | .struct _ | .array _ _ => False | _ => True)) (j : Nat) : aload T t (.ptr b ver j) H = cs[j]? := by
  simp only [aload, ht, h.at']
  cases hi : i.d <;> simp only [hi] at hd ⊢ <;> first | rfl | exact hd.elim
theorem make_gen {H0 H : Hp} {t e : Nat} {ie : TI} {z : AV} (hD : T.d t = .slice e) (hT : T e = some ie) (hs : ie.size = 1) (hb : ie.bytes ≤ 8) (hz : ie.zero = [z]) (he : Ext H0 H) (n : Nat) (hn : n < 1099511627776) :
    amake T t (.int .i64 n) (.int .i64 n) H = some (slC H.bs.length H.c n, H.new (List.replicate n z)) ∧ OwnC H0 (H.new (List.replicate n z)) H.bs.length H.c (List.replicate n z) ∧ Ext H0 (H.new (List.replicate n z)) := by
  have hr : ∀ n, rep n [z] = List.replicate n z := by
    intro n
    induction n with
    | zero => rfl
    | succ n ih => simp [rep, ih, List.replicate_succ]
  refine ⟨?_, ⟨he.c, new_at _ _⟩, he.new _⟩
  simp only [amake, hD, hT, Option.bind_some]
  have : ((ie.bytes : Int)) * (n : Int) ≤ 8 * (n : Int) := Int.mul_le_mul_of_nonneg_right (by omega) (by omega)
  rw [if_pos (by refine ⟨trivial, by omega, by omega, by omega⟩), hz, hr, hs]
  simp [slC]
theorem store_gen {H0 H : Hp} {b ver t : Nat} {i : TI} {cs : List AV} {x : AV} (hw0 : Wf H0) (he : Ext H0 H) (h : OwnC H0 H b ver cs) (ht : T t = some i) (hs : i.size = 1) (hx : flat x = true) (j : Nat) (hj : j < cs.length) :
    astore T t (.ptr b ver j) x H = some (H.put b ⟨ver, cs.set j x, true, true⟩) ∧ OwnC H0 (H.put b ⟨ver, cs.set j x, true, true⟩) b ver (cs.set j x) ∧ Ext H0 (H.put b ⟨ver, cs.set j x, true, true⟩) := by
  obtain ⟨g1, g2⟩ := Hp.at_some h.at'
  have hb := (List.getElem?_eq_some_iff.1 g1).1
  have hc : x.cells = [x] := by cases x <;> first | rfl | cases hx
  have ho : x.one = true := by cases x <;> first | rfl | cases hx
  refine ⟨?_, ⟨h.new, by simp [Hp.at, Hp.put, hb]⟩, ?_, ?_, he.c⟩
  · simp only [astore, ht, h.at']
    rw [if_pos (by simp [hc, ho, hs]; omega)]
    simp [hc, setAll]
  · intro i k hi
    have h1 := he.pre i k hi
    show (H.bs.set b _)[i]? = some k
    by_cases hib : b = i
    · subst hib
      rw [g1] at h1
      cases h1
      exact absurd (hw0 b _ hi) (Nat.not_lt.2 h.new)
    · rw [List.getElem?_set_ne hib]; exact h1
  · intro i k hi
    simp only [Hp.put] at hi ⊢
    by_cases hib : b = i
    · subst hib
      simp [hb] at hi
      subst hi
      exact (he.wf b _ g1 : ver < H.c)
    · rw [List.getElem?_set_ne hib] at hi
      exact he.wf i k hi
/-- Another block is written. -/
theorem OwnC.put {H0 H : Hp} {b ver b' : Nat} {cs : List AV} {k : Blk} (h : OwnC H0 H b ver cs) (hne : b ≠ b') : OwnC H0 (H.put b' k) b ver cs := by
  refine ⟨h.new, ?_⟩
  have := h.at'
  simp only [Hp.at, Hp.put] at this ⊢
  rw [List.getElem?_set_ne (fun e => hne e.symm)]
  exact this
theorem OwnC.grow {H0 H : Hp} {b ver : Nat} {cs : List AV} (h : OwnC H0 H b ver cs) (xs : List AV) : OwnC H0 (H.new xs) b ver cs := ⟨h.new, at_new h.at' xs⟩
theorem OwnC.old {A B H : Hp} {b ver : Nat} {cs : List AV} (h : OwnC B H b ver cs) (hc : A.c ≤ B.c) : OwnC A H b ver cs := ⟨Nat.le_trans hc h.new, h.at'⟩
end Go.Proofs.Ytokadkakmhfdeaa.Pq

/- Arithmetic, slices, places, append, copy. -/
import Derived.Test.YtokadkakmhfdeaaPqD
import Derived.Lib.SliceRun
import Derived.Laws.Small
set_option linter.unusedVariables false
set_option linter.unusedSimpArgs false
namespace Go.Proofs.Ytokadkakmhfdeaa.Pq
open Go.RowKit

section
variable {P : Program} {T : Tab} {B0 : Nat} {w0 w : World} {G : Cx} {H : Hp}

theorem acmp_ok {op : BinOp} {a b : Int} {v : AV} (h : acmp op a b = some v) : ∃ x, (Op.intCmp op a b).run P w = .ok x w ∧ RV G v x := by
  cases op <;> simp only [acmp] at h <;> first
    | (cases h; exact ⟨_, rfl, .bool _⟩)
    | cases h

theorem aint_ok {op : BinOp} {t : Nat} {k : IntKind} {a b : Int} {v : AV} (h : aint op k a b = some v) : ∃ x, (binOp op t (.int k a) (.int k b)).run P w = .ok x w ∧ RV G v x := by
  cases op <;> simp only [aint] at h
  case add => cases h; exact ⟨_, by simp [binOp, Op.intArith], .int _ _⟩
  case sub => cases h; exact ⟨_, by simp [binOp, Op.intArith], .int _ _⟩
  case mul => cases h; exact ⟨_, by simp [binOp, Op.intArith], .int _ _⟩
  case quo => split at h; · cases h
              · cases h; exact ⟨_, by simp [binOp, Op.intDiv, *], .int _ _⟩
  case rem => split at h; · cases h
              · cases h; exact ⟨_, by simp [binOp, Op.intDiv, *], .int _ _⟩
  case and => cases h; exact ⟨_, by simp [binOp, Op.intBits], .int _ _⟩
  case shl => split at h; · cases h
              · cases h; exact ⟨_, by simp [binOp, Op.shift, *], .int _ _⟩
  case shr => split at h; · cases h
              · cases h; exact ⟨_, by simp [binOp, Op.shift, *], .int _ _⟩
  case or => cases h
  case xor => cases h
  case andNot => cases h
  all_goals
    obtain ⟨x, h1, h2⟩ := acmp_ok (P := P) (w := w) (G := G) h
    exact ⟨x, by simpa [binOp] using h1, h2⟩

theorem run_equalIn_ptr (d t e : Nat) (a : Option Addr) (h : P.underlying t = some (.pointer e)) : (Op.equalIn (d + 1) t (.pointer a) (.pointer none)).run P w = .ok a.isNone w := by
  cases a <;> simp [Op.equalIn, run_underlying h]
theorem run_equal_ptr (t e : Nat) (a : Option Addr) (h : P.underlying t = some (.pointer e)) : (Op.equal t (.pointer a) (.pointer none)).run P w = .ok a.isNone w :=
  run_equalIn_ptr 9999 t e a h
theorem run_equal_slice (t e : Nat) (a : Option Addr) (n c : Nat) (h : P.underlying t = some (.slice e)) : (Op.equal t (.slice a n c) (.slice none 0 0)).run P w = .ok a.isNone w :=
  Lib.run_equalIn_slice_nil w 9999 t e a n c 0 0 h

theorem bin_nilS (hT : TOK P T) {t e : Nat} (hd : Tab.d T t = .slice e) {x : AV} {vx : Value} (hx : RV G x vx) {q : Bool} (hq : anilS x = some q) : (Op.equal t vx (.slice none 0 0)).run P w = .ok q w := by
  obtain ⟨i, h1, h2⟩ := Tab.d_eq hd (by simp)
  have hu := (hT t i h1).desc
  simp only [h2] at hu
  cases hx <;> simp only [anilS] at hq <;> cases hq <;> exact run_equal_slice _ _ _ _ _ hu
theorem bin_nilP (hT : TOK P T) {t e : Nat} (hd : Tab.d T t = .ptr e) {x : AV} {vx : Value} (hx : RV G x vx) {q : Bool} (hq : anilP x = some q) : (Op.equal t vx (.pointer none)).run P w = .ok q w := by
  obtain ⟨i, h1, h2⟩ := Tab.d_eq hd (by simp)
  have hu := (hT t i h1).desc
  simp only [h2] at hu
  cases hx <;> simp only [anilP] at hq <;> cases hq <;> exact run_equal_ptr _ _ _ hu
theorem bin_ok (hT : TOK P T) {op : BinOp} {t : Nat} {x y v : AV} {vx vy : Value} (hx : RV G x vx) (hy : RV G y vy) (h : abin T op t x y = some v) :
    ∃ z, (binOp op t vx vy).run P w = .ok z w ∧ RV G v z := by
  unfold abin at h
  split at h
  · rename_i k a k' b
    cases hx; cases hy
    split at h
    · rename_i e; subst e; exact aint_ok h
    · rename_i hk
      split at h
      · simp only [aint] at h
        split at h
        · cases h
        · cases h; exact ⟨_, by simp [binOp, Op.shift, *], .int _ _⟩
      · simp only [aint] at h
        split at h
        · cases h
        · cases h; exact ⟨_, by simp [binOp, Op.shift, *], .int _ _⟩
      · cases h
  · rename_i a b
    cases hx; cases hy
    split at h
    · split at h
      · cases h; refine ⟨_, ?_, .str _⟩
        have : ¬ ((a.size + b.size : Nat) : Int) > IntKind.i64.max := by simp [IntKind.max, IntKind.bits, IntKind.signed]; omega
        simp only [binOp, Op.stringOp, Sem.run_ite]
        rw [if_neg this]; rfl
      · cases h
    · cases h; exact ⟨_, by simp [binOp, Op.stringOp], .bool _⟩
    · cases h; exact ⟨_, by simp [binOp, Op.stringOp], .bool _⟩
    · cases h
  · rename_i a b
    cases hx; cases hy
    split at h
    · rename_i hd
      obtain ⟨i, h1, h2⟩ := Tab.d_eq hd (by simp)
      have hu := (hT t i h1).desc
      simp only [h2] at hu
      cases h; exact ⟨.bool (a == b), by simp [binOp, run_equal_bool w t a b hu], .bool _⟩
    · rename_i hd
      obtain ⟨i, h1, h2⟩ := Tab.d_eq hd (by simp)
      have hu := (hT t i h1).desc
      simp only [h2] at hu
      cases h; exact ⟨.bool !(a == b), by simp [binOp, run_equal_bool w t a b hu], .bool _⟩
    · cases h
  · split at h
    · obtain ⟨q, hq, rfl⟩ := Option.map_eq_some_iff.1 h
      cases hy
      have hz := bin_nilS (P := P) (w := w) hT (by assumption) hx hq
      exact ⟨.bool q, by simp [binOp, hz], .bool _⟩
    · obtain ⟨q, hq, rfl⟩ := Option.map_eq_some_iff.1 h
      cases hy
      have hz := bin_nilS (P := P) (w := w) hT (by assumption) hx hq
      exact ⟨.bool !q, by simp [binOp, hz], .bool _⟩
    · obtain ⟨q, hq, rfl⟩ := Option.map_eq_some_iff.1 h
      cases hy
      have hz := bin_nilP (P := P) (w := w) hT (by assumption) hx hq
      exact ⟨.bool q, by simp [binOp, hz], .bool _⟩
    · obtain ⟨q, hq, rfl⟩ := Option.map_eq_some_iff.1 h
      cases hy
      have hz := bin_nilP (P := P) (w := w) hT (by assumption) hx hq
      exact ⟨.bool !q, by simp [binOp, hz], .bool _⟩
    · cases h

end
end Go.Proofs.Ytokadkakmhfdeaa.Pq

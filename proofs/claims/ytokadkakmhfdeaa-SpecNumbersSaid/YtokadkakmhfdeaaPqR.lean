/- Types that are told are right; environments as lists; what the executor's steps come to. -/
import Derived.Test.YtokadkakmhfdeaaPqQ
set_option linter.unusedVariables false
set_option linter.unusedSimpArgs false
namespace Go.Proofs.Ytokadkakmhfdeaa.Pq
open Go.RowKit

/-! ### types -/
def sameZ : AV → Value → Bool
  | .int k n, .int k' m => k == k' && n == m
  | .bool b, .bool b' => b == b'
  | .str s, .string s' => decide (s = s')
  | .nilS, .slice none 0 0 => true
  | .nilP, .pointer none => true
  | .nilF, .nilFunc => true
  | .nilI, .nilIface => true
  | _, _ => false
def samesZ : List AV → List Value → Bool
  | [], [] => true
  | a :: l, v :: m => sameZ a v && samesZ l m
  | _, _ => false
theorem sameZ_ok {G : Cx} {a : AV} {v : Value} (h : sameZ a v = true) : RV G a v ∧ a.one = true := by
  unfold sameZ at h
  split at h
  · simp at h; obtain ⟨rfl, rfl⟩ := h; exact ⟨.int _ _, rfl⟩
  · simp at h; subst h; exact ⟨.bool _, rfl⟩
  · simp at h; subst h; exact ⟨.str _, rfl⟩
  · exact ⟨.nilS, rfl⟩
  · exact ⟨.nilP, rfl⟩
  · exact ⟨.nilF, rfl⟩
  · exact ⟨.nilI, rfl⟩
  · cases h
theorem samesZ_ok {l : List AV} {m : List Value} (h : samesZ l m = true) : (∀ G, RVs G l m) ∧ l.all AV.one = true := by
  induction l generalizing m with
  | nil => cases m with
    | nil => exact ⟨fun _ => .nil, rfl⟩
    | cons v m => cases h
  | cons a l ih => cases m with
    | nil => cases h
    | cons v m =>
      simp only [samesZ, Bool.and_eq_true] at h
      obtain ⟨h1, h2⟩ := ih h.2
      exact ⟨fun G => .cons _ _ _ _ (sameZ_ok h.1).1 (h1 G), by simp [(sameZ_ok (G := ⟨fun _ _ => none, fun _ => 0, 0⟩) h.1).2, h2]⟩

def okDesc (P : Program) (t : Nat) : TD → Bool
  | .bool => (match P.underlying t with | some .bool => true | _ => false)
  | .int k => (match P.underlying t with | some (.int k') => k == k' | _ => false)
  | .str => (match P.underlying t with | some .string => true | _ => false)
  | .slice e => (match P.underlying t with | some (.slice e') => e == e' | _ => false)
  | .array n e => (match P.underlying t with | some (.array n' e') => n == n' && e == e' | _ => false)
  | .struct fs => (match P.underlying t with | some (.struct fields) => fields.toList.map (fun f => (f.offset, f.type)) == fs && fields.toList.all (fun f => (P.info? f.type).isSome) | _ => false)
  | .ptr e => (match P.underlying t with | some (.pointer e') => e == e' | _ => false)
  | .func => (match P.underlying t with | some (.func _ _ _) => true | _ => false)
  | .other => false
def okTI (P : Program) (t : Nat) (i : TI) : Bool :=
  (match P.info? t with
    | some q => q.size == i.size && q.bytes == i.bytes && (match q.zero with | some z => samesZ i.zero z.cells.toList | none => false) && i.zero.length == i.size
    | none => false) && okDesc P t i.d

theorem okTI_ok {P : Program} {t : Nat} {i : TI} (h : okTI P t i = true) : TyOK P t i := by
  unfold okTI at h
  simp only [Bool.and_eq_true] at h
  obtain ⟨h1, h2⟩ := h
  constructor
  · split at h1
    · rename_i q hq
      simp only [Bool.and_eq_true, beq_iff_eq] at h1
      obtain ⟨⟨⟨a1, a2⟩, a3⟩, a4⟩ := h1
      split at a3
      · rename_i z hz
        obtain ⟨b1, b2⟩ := samesZ_ok a3
        exact ⟨q, z, hq, a1, a2, hz, b1, a4, b2⟩
      · cases a3
    · cases h1
  · unfold okDesc at h2
    split at h2 <;> rename_i hd <;> rw [hd] <;> simp only
    all_goals first
      | (cases h2; done)
      | skip
    all_goals (split at h2 <;> first | (cases h2; done) | skip)
    · assumption
    · rename_i he; simp at h2; subst h2; exact he
    · assumption
    · rename_i he; simp at h2; subst h2; exact he
    · rename_i he; simp at h2; obtain ⟨rfl, rfl⟩ := h2; exact he
    · rename_i fields he; simp only [Bool.and_eq_true, beq_iff_eq] at h2; exact ⟨fields, he, h2.1, h2.2⟩
    · rename_i he; simp at h2; subst h2; exact he
    · rename_i a b v he; exact ⟨a, b, v, he⟩

def lookT : List (Nat × TI) → Nat → Option TI
  | [], _ => none
  | p :: l, t => if t = p.1 then some p.2 else lookT l t
theorem tok_list {P : Program} {l : List (Nat × TI)} (h : (l.all fun p => okTI P p.1 p.2) = true) : TOK P (lookT l) := by
  intro t i hi
  induction l with
  | nil => cases hi
  | cons p l ih =>
    simp only [List.all_cons, Bool.and_eq_true] at h
    simp only [lookT] at hi
    split at hi
    · rename_i ht; cases hi; subst ht; exact okTI_ok h.1
    · exact ih h.2 hi

/-! ### environments -/
def envL : List (Nat × FSem) → Env
  | [], _ => none
  | p :: l, g => if g = p.1 then some p.2 else envL l g
theorem EOK_nil (P : Program) : EOK P (envL []) := by intro g F h; cases h
theorem EOK_cons {P : Program} {g : Nat} {F : FSem} {l : List (Nat × FSem)} (h : Sound P g F.run) (hl : EOK P (envL l)) : EOK P (envL ((g, F) :: l)) := by
  intro g' F' h'
  simp only [envL] at h'
  split at h'
  · rename_i e; cases h'; subst e; exact h
  · exact hl g' F' h'

end Go.Proofs.Ytokadkakmhfdeaa.Pq

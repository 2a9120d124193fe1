/- A region that draws its order: the theorem. -/
import Derived.Test.YtokadkakmhfdeaaPqL
set_option linter.unusedVariables false
set_option linter.unusedSimpArgs false
namespace Go.Proofs.Ytokadkakmhfdeaa.Pq
open Go.RowKit

/-! ### who waits for whom -/
def maskOf (acc : List Nat) (o : Oper) : Nat := o.after.toList.foldl (fun m e => if Region.binds .any e then m ||| 2 ^ e.on ||| acc.getD e.on 0 else m) 0
def masks : List Oper → List Nat → List Nat
  | [], acc => acc
  | o :: l, acc => masks l (acc ++ [maskOf acc o])
def preB (ms : List Nat) (e q : Nat) : Bool := (ms.getD e 0).testBit q

theorem maskOf_bit {acc : List Nat} {o : Oper} {q : Nat} (h : (maskOf acc o).testBit q = true) : ∃ e ∈ o.after, Region.binds .any e = true ∧ (e.on = q ∨ (acc.getD e.on 0).testBit q = true) := by
  unfold maskOf at h
  have key : ∀ (l : List Edge) (m : Nat), (l.foldl (fun m e => if Region.binds .any e then m ||| 2 ^ e.on ||| acc.getD e.on 0 else m) m).testBit q = true →
      m.testBit q = true ∨ ∃ e ∈ l, Region.binds .any e = true ∧ (e.on = q ∨ (acc.getD e.on 0).testBit q = true) := by
    intro l
    induction l with
    | nil => intro m h; exact .inl h
    | cons e l ih =>
      intro m h
      simp only [List.foldl_cons] at h
      rcases ih _ h with h1 | ⟨e', h1, h2⟩
      · split at h1
        · rename_i hb
          rw [Nat.testBit_or, Nat.testBit_or, Bool.or_eq_true, Bool.or_eq_true] at h1
          rcases h1 with (h1 | h1) | h1
          · exact .inl h1
          · rw [Nat.testBit_two_pow] at h1
            exact .inr ⟨e, by simp, hb, .inl (by simpa using h1)⟩
          · exact .inr ⟨e, by simp, hb, .inr h1⟩
        · exact .inl h1
      · exact .inr ⟨e', by simp [h1], h2⟩
  rcases key _ _ h with h1 | ⟨e, h1, h2⟩
  · simp at h1
  · exact ⟨e, by simpa using h1, h2⟩

theorem masks_spec : ∀ (l : List Oper) (acc : List Nat) (i : Nat), (∀ j, j < acc.length → (masks l acc).getD j 0 = acc.getD j 0) ∧
    (∀ o, l[i]? = some o → ∃ pre : List Nat, pre.length = acc.length + i ∧ (∀ j, j < pre.length → (masks l acc).getD j 0 = pre.getD j 0) ∧ (masks l acc).getD (acc.length + i) 0 = maskOf pre o) := by
  intro l
  induction l with
  | nil => intro acc i; exact ⟨fun j _ => rfl, fun o h => by simp at h⟩
  | cons o l ih =>
    intro acc i
    have h1 : ∀ j, j < (acc ++ [maskOf acc o]).length → (masks (o :: l) acc).getD j 0 = (acc ++ [maskOf acc o]).getD j 0 := fun j hj => (ih (acc ++ [maskOf acc o]) 0).1 j hj
    refine ⟨fun j hj => ?_, fun o' ho => ?_⟩
    · rw [h1 j (by simp; omega)]
      simp only [List.getD_eq_getElem?_getD, List.getElem?_append_left hj]
    · cases i with
      | zero =>
        simp at ho; subst ho
        refine ⟨acc, rfl, fun j hj => ?_, ?_⟩
        · rw [h1 j (by simp; omega)]
          simp only [List.getD_eq_getElem?_getD, List.getElem?_append_left hj]
        · rw [Nat.add_zero, h1 _ (by simp)]
          simp [List.getD_eq_getElem?_getD]
      | succ i =>
        obtain ⟨pre, p1, p2, p3⟩ := (ih (acc ++ [maskOf acc o]) i).2 o' (by simpa using ho)
        refine ⟨pre, by simp at p1; omega, p2, ?_⟩
        have : (acc ++ [maskOf acc o]).length + i = acc.length + (i + 1) := by simp; omega
        rw [this] at p3
        exact p3

/-- Whoever waits for q has somebody right ahead that is q or waits for it. -/
theorem preB_step {ops : Array Oper} {e q : Nat} {o : Oper} (ho : ops[e]? = some o) (h : preB (masks ops.toList []) e q = true) (hlex : ∀ ed ∈ o.after, Region.binds .any ed = true → ed.on < e) :
    ∃ ed ∈ o.after, Region.binds .any ed = true ∧ (ed.on = q ∨ preB (masks ops.toList []) ed.on q = true) := by
  obtain ⟨pre, p1, p2, p3⟩ := (masks_spec ops.toList [] e).2 o (by simpa using ho)
  unfold preB at h ⊢
  simp only [List.length_nil, Nat.zero_add] at p1 p3
  rw [p3] at h
  obtain ⟨ed, h1, h2, h3⟩ := maskOf_bit h
  refine ⟨ed, h1, h2, h3.imp id fun h4 => ?_⟩
  rw [p2 ed.on (by rw [p1]; exact hlex ed h1 h2)]
  exact h4

def waitsB (oj : Oper) (i : Nat) : Bool := oj.after.any fun e => Region.binds .any e && e.on == i
def apartA (ops : Array Oper) (oi oj : Oper) : Bool :=
  (match oi.dst with | some d => !(readsOf ops oj).contains d && !(oj.dst == some d) | none => true) && (match oj.dst with | some d => !(readsOf ops oi).contains d | none => true)
/-- The text's order is one that may be, and whoever does not wait for another is apart from it. -/
def lexA (ops : Array Oper) : Bool :=
  (List.range ops.size).all fun j => match ops[j]? with
    | none => true
    | some oj => (oj.after.all fun e => !Region.binds .any e || decide (e.on < j)) &&
      (List.range j).all fun i => match ops[i]? with
        | none => true
        | some oi => waitsB oj i || apartA ops oi oj
def effs (E : Env) (ops : Array Oper) : List Nat := (List.range ops.size).filter fun i => match ops[i]? with | some o => !quietOp E o | none => false
def quiets (E : Env) (ops : Array Oper) : List Nat := (List.range ops.size).filter fun i => match ops[i]? with | some o => quietOp E o | none => false
def chainA (E : Env) (ops : Array Oper) : Bool :=
  (effs E ops).all fun e => (effs E ops).all fun f => !decide (e < f) || preB (masks ops.toList []) f e
/-- Which quiet operation must be looked at in which memory again. -/
def recs (E : Env) (ops : Array Oper) : List (Nat × Nat) :=
  (quiets E ops).flatMap fun q => (effs E ops).flatMap fun e =>
    if q < e ∧ preB (masks ops.toList []) e q = false then [(q, e + 1)] else if e < q ∧ preB (masks ops.toList []) q e = false then [(q, e)] else []

theorem mem_effs {E : Env} {ops : Array Oper} {i : Nat} : i ∈ effs E ops ↔ ∃ o, ops[i]? = some o ∧ quietOp E o = false := by
  unfold effs
  rw [List.mem_filter, List.mem_range]
  cases ho : ops[i]? with
  | none => simp
  | some o => have := (Array.getElem?_eq_some_iff.1 ho).1; simp [this]
theorem mem_quiets {E : Env} {ops : Array Oper} {i : Nat} : i ∈ quiets E ops ↔ ∃ o, ops[i]? = some o ∧ quietOp E o = true := by
  unfold quiets
  rw [List.mem_filter, List.mem_range]
  cases ho : ops[i]? with
  | none => simp
  | some o => have := (Array.getElem?_eq_some_iff.1 ho).1; simp [this]

theorem mem_recs {E : Env} {ops : Array Oper} {q e : Nat} (hq : q ∈ quiets E ops) (he : e ∈ effs E ops) :
    (q < e → preB (masks ops.toList []) e q = false → (q, e + 1) ∈ recs E ops) ∧ (e < q → preB (masks ops.toList []) q e = false → (q, e) ∈ recs E ops) := by
  unfold recs
  refine ⟨fun h1 h2 => ?_, fun h1 h2 => ?_⟩
  · refine List.mem_flatMap.2 ⟨q, hq, List.mem_flatMap.2 ⟨e, he, ?_⟩⟩
    rw [if_pos ⟨h1, h2⟩]; simp
  · refine List.mem_flatMap.2 ⟨q, hq, List.mem_flatMap.2 ⟨e, he, ?_⟩⟩
    rw [if_neg (by omega), if_pos ⟨h1, h2⟩]; simp

theorem lexA_spec {ops : Array Oper} (h : lexA ops = true) : (∀ j oj, ops[j]? = some oj → ∀ e ∈ oj.after, Region.binds .any e = true → e.on < j) ∧
    (∀ i j oi oj, i < j → ops[i]? = some oi → ops[j]? = some oj → (∃ e ∈ oj.after, Region.binds .any e = true ∧ e.on = i) ∨ apartA ops oi oj = true) := by
  unfold lexA at h
  rw [List.all_eq_true] at h
  have hh := fun j oj (hj : ops[j]? = some oj) => (by
    have h1 := h j (List.mem_range.2 (Array.getElem?_eq_some_iff.1 hj).1)
    rw [hj] at h1
    simp only [Bool.and_eq_true] at h1
    exact h1 : (oj.after.all fun e => !Region.binds .any e || decide (e.on < j)) = true ∧ ((List.range j).all fun i => match ops[i]? with | none => true | some oi => waitsB oj i || apartA ops oi oj) = true)
  refine ⟨fun j oj hj e he hb => ?_, fun i j oi oj hij hi hj => ?_⟩
  · have h1 := (hh j oj hj).1
    rw [Array.all_eq_true_iff_forall_mem] at h1
    have := h1 e he
    simpa [hb] using this
  · have h1 := (hh j oj hj).2
    rw [List.all_eq_true] at h1
    have h2 := h1 i (List.mem_range.2 hij)
    rw [hi] at h2
    simp only [Bool.or_eq_true] at h2
    refine h2.imp (fun h3 => ?_) id
    unfold waitsB at h3
    rw [← Array.any_toList, List.any_eq_true] at h3
    obtain ⟨e, he, h4⟩ := h3
    simp only [Bool.and_eq_true, beq_iff_eq] at h4
    exact ⟨e, by simpa using he, h4.1, h4.2⟩


section
variable {P : Program} {T : Tab} {B0 : Nat} {w0 w : World} {G : Cx}

/-- The trace of the text's order, as functions. -/
structure Trace (E : Env) (T : Tab) (share : Bool) (nt : Nat) (ops : Array Oper) (S : Nat → Sl) (Hh : Nat → Hp) (V : Nat → AV) : Prop where
  step : ∀ i o, ops[i]? = some o → xval E T share ops o (S i) (Hh i) = some (V i, Hh (i + 1)) ∧ S (i + 1) = aput nt o.dst (V i) (S i)
  lex : lexA ops = true
  chain : chainA E ops = true
  stab : ∀ q k o, (q, k) ∈ recs E ops → ops[q]? = some o → xval E T share ops o (S q) (Hh k) = some (V q, Hh k)

/-- Operation i writes slot t. -/
def Wr (nt : Nat) (ops : Array Oper) (i t : Nat) : Prop := ∃ o, ops[i]? = some o ∧ o.dst = some t ∧ t < nt

theorem get_aput (nt : Nat) (d : Option Nat) (v : AV) (s : Sl) (t : Nat) : get (aput nt d v s) t = if d = some t ∧ t < nt then v else get s t := by
  cases d with
  | none => simp [aput]
  | some d =>
    simp only [aput, Option.some.injEq]
    by_cases hd : d < nt
    · rw [if_pos hd]
      simp only [get]
      by_cases ht : t = d
      · subst ht; simp [hd]
      · rw [if_neg ht, if_neg (fun h => ht h.1.symm)]
    · rw [if_neg hd]
      by_cases ht : d = t
      · subst ht; rw [if_neg (fun h => hd h.2)]
      · rw [if_neg (fun h => ht h.1)]

variable {E : Env} {share : Bool} {nt : Nat} {ops : Array Oper} {S : Nat → Sl} {Hh : Nat → Hp} {V : Nat → AV}

theorem Trace.slot (tr : Trace E T share nt ops S Hh V) (t : Nat) : ∀ i, i ≤ ops.size → (∃ p, p < i ∧ Wr nt ops p t ∧ (∀ k, k < i → Wr nt ops k t → k ≤ p) ∧ get (S i) t = V p) ∨ ((∀ k, k < i → ¬ Wr nt ops k t) ∧ get (S i) t = get (S 0) t) := by
  intro i
  induction i with
  | zero => intro _; exact .inr ⟨fun k h => by omega, rfl⟩
  | succ i ih =>
    intro hi
    obtain ⟨o, ho⟩ : ∃ o, ops[i]? = some o := ⟨_, Array.getElem?_eq_getElem (by omega)⟩
    have hs := (tr.step i o ho).2
    rw [hs, get_aput]
    by_cases hw : o.dst = some t ∧ t < nt
    · rw [if_pos hw]
      exact .inl ⟨i, by omega, ⟨o, ho, hw.1, hw.2⟩, fun k hk _ => by omega, rfl⟩
    · rw [if_neg hw]
      have hnw : ¬ Wr nt ops i t := by
        rintro ⟨o', h1, h2, h3⟩
        rw [ho] at h1; cases h1
        exact hw ⟨h2, h3⟩
      rcases ih (by omega) with ⟨p, h1, h2, h3, h4⟩ | ⟨h1, h2⟩
      · refine .inl ⟨p, by omega, h2, fun k hk hwk => ?_, h4⟩
        rcases Nat.lt_or_ge k i with h5 | h5
        · exact h3 k h5 hwk
        · have : k = i := by omega
          subst this; exact absurd hwk hnw
      · refine .inr ⟨fun k hk => ?_, h2⟩
        rcases Nat.lt_or_ge k i with h5 | h5
        · exact h1 k h5
        · have : k = i := by omega
          subst this; exact hnw

/-- The slots once the operations of X have been carried out, in whatever order. -/
def SlotX (nt : Nat) (ops : Array Oper) (S : Nat → Sl) (V : Nat → AV) (X : Nat → Prop) (s : Sl) : Prop :=
  ∀ t, (∃ p, X p ∧ Wr nt ops p t ∧ (∀ k, X k → Wr nt ops k t → k ≤ p) ∧ get s t = V p) ∨ ((∀ k, X k → ¬ Wr nt ops k t) ∧ get s t = get (S 0) t)
/-- The memory: as it was ahead of the first operation of those not carried out that write. -/
def MemX (E : Env) (ops : Array Oper) (Hh : Nat → Hp) (X : Nat → Prop) (H : Hp) : Prop :=
  ∃ m, m ≤ ops.size ∧ H = Hh m ∧ (∀ e, e ∈ effs E ops → (X e ↔ e < m))

def Closed (ops : Array Oper) (X : Nat → Prop) : Prop := ∀ i o, X i → ops[i]? = some o → ∀ e ∈ o.after, Region.binds .any e = true → X e.on

theorem Closed.pre (tr : Trace E T share nt ops S Hh V) {X : Nat → Prop} (hX : Closed ops X) : ∀ e q, X e → e < ops.size → preB (masks ops.toList []) e q = true → X q := by
  intro e
  induction e using Nat.strongRecOn with
  | _ e ih =>
    intro q he hlt hp
    obtain ⟨o, ho⟩ : ∃ o, ops[e]? = some o := ⟨_, Array.getElem?_eq_getElem hlt⟩
    have hlx := (lexA_spec tr.lex).1 e o ho
    obtain ⟨ed, h1, h2, h3⟩ := preB_step ho hp hlx
    have hXd := hX e o he ho ed h1 h2
    have hle := hlx ed h1 h2
    rcases h3 with h3 | h3
    · rw [← h3]; exact hXd
    · exact ih ed.on hle q hXd (by omega) h3

/-- The memory does not turn between operations that leave it alone. -/
theorem Trace.mem_const (tr : Trace E T share nt ops S Hh V) : ∀ (d i : Nat), i + d ≤ ops.size → (∀ e, e ∈ effs E ops → ¬ (i ≤ e ∧ e < i + d)) → Hh (i + d) = Hh i := by
  intro d
  induction d with
  | zero => intro i _ _; rfl
  | succ d ih =>
    intro i hi hn
    have h1 := ih i (by omega) (fun e he hh => hn e he ⟨hh.1, by omega⟩)
    obtain ⟨o, ho⟩ : ∃ o, ops[i + d]? = some o := ⟨_, Array.getElem?_eq_getElem (by omega)⟩
    have hq : quietOp E o = true := by
      cases hq : quietOp E o with
      | true => rfl
      | false => exact absurd ⟨by omega, by omega⟩ (hn (i + d) (mem_effs.2 ⟨o, ho, hq⟩))
    have := quietOp_same hq (tr.step (i + d) o ho).1
    rw [← h1, ← this]
    rfl

/-- An operation that may come now does what it does in the text's order. -/
theorem Trace.now (tr : Trace E T share nt ops S Hh V) {X : Nat → Prop} {s : Sl} {H : Hp} {i : Nat} {o : Oper} (ho : ops[i]? = some o) (hX : Closed ops X) (hlt : ∀ k, X k → k < ops.size) (hni : ¬ X i)
    (hready : ∀ e ∈ o.after, Region.binds .any e = true → X e.on) (hs : SlotX nt ops S V X s) (hm : MemX E ops Hh X H) :
    ∃ H', xval E T share ops o s H = some (V i, H') ∧ SlotX nt ops S V (fun k => X k ∨ k = i) (aput nt o.dst (V i) s) ∧ MemX E ops Hh (fun k => X k ∨ k = i) H' := by
  have hil := (Array.getElem?_eq_some_iff.1 ho).1
  obtain ⟨hlx1, hlx2⟩ := lexA_spec tr.lex
  -- who writes what i reads
  have hwr : ∀ t, t ∈ readsOf ops o → ∀ k, Wr nt ops k t → k ≠ i → (k < i → X k) ∧ (i < k → ¬ X k) := by
    rintro t ht k ⟨ok, hk, hd, _⟩ hne
    refine ⟨fun hki => ?_, fun hik hXk => ?_⟩
    · rcases hlx2 k i ok o hki hk ho with ⟨e, he, hb, hon⟩ | hap
      · rw [← hon]; exact hready e he hb
      · simp only [apartA, hd, Bool.and_eq_true, Bool.not_eq_true', List.contains_eq_mem, decide_eq_false_iff_not] at hap
        exact absurd ht hap.1.1
    · rcases hlx2 i k o ok hik ho hk with ⟨e, he, hb, hon⟩ | hap
      · have := hX k ok hXk hk e he hb
        rw [hon] at this; exact hni this
      · simp only [apartA, hd, Bool.and_eq_true, Bool.not_eq_true', List.contains_eq_mem, decide_eq_false_iff_not] at hap
        exact absurd ht hap.2
  have hself : ∀ t, t ∈ readsOf ops o → get s t = get (S i) t := by
    intro t ht
    rcases tr.slot t i (by omega) with ⟨p, p1, p2, p3, p4⟩ | ⟨p1, p2⟩
    · rcases hs t with ⟨p', q1, q2, q3, q4⟩ | ⟨q1, q2⟩
      · have hpX := (hwr t ht p p2 (by omega)).1 p1
        have h1 := q3 p hpX p2
        have hne : p' ≠ i := fun e => hni (e ▸ q1)
        have h2 : p' < i := by
          rcases Nat.lt_or_ge p' i with h | h
          · exact h
          · exact absurd q1 ((hwr t ht p' q2 hne).2 (by omega))
        have h3 := p3 p' h2 q2
        have : p' = p := by omega
        rw [q4, p4, this]
      · exact absurd p2 (q1 p ((hwr t ht p p2 (by omega)).1 p1))
    · rcases hs t with ⟨p', q1, q2, q3, q4⟩ | ⟨q1, q2⟩
      · have hne : p' ≠ i := fun e => hni (e ▸ q1)
        rcases Nat.lt_or_ge p' i with h | h
        · exact absurd q2 (p1 p' h)
        · exact absurd q1 ((hwr t ht p' q2 hne).2 (by omega))
      · rw [p2, q2]
  have hcongr : ∀ Hx, xval E T share ops o s Hx = xval E T share ops o (S i) Hx := by
    intro Hx
    have h1 : ∀ x ∈ o.op.operands.toList, ev s x = ev (S i) x := ev_congr fun t ht => hself t (by unfold readsOf; exact List.mem_append_left _ ht)
    have h2 : wantedA ops o s = wantedA ops o (S i) := by
      unfold wantedA
      cases hg : o.guard with
      | none => rfl
      | some p =>
        obtain ⟨j, want⟩ := p
        simp only
        cases hd : (ops[j]?).bind (·.dst) with
        | none => rfl
        | some d =>
          have := hself d (by unfold readsOf; rw [hg]; simp [hd])
          simp only [this]
    unfold xval
    rw [h2]
    split
    · rfl
    · rfl
    · rw [xdo_congr h1]
  -- the slots behind it
  have hslot : SlotX nt ops S V (fun k => X k ∨ k = i) (aput nt o.dst (V i) s) := by
    intro t
    rw [get_aput]
    by_cases hw : o.dst = some t ∧ t < nt
    · rw [if_pos hw]
      refine .inl ⟨i, .inr rfl, ⟨o, ho, hw.1, hw.2⟩, fun k hk hwk => ?_, rfl⟩
      rcases hk with hk | hk
      · rcases Nat.lt_or_ge i k with hik | hik
        · obtain ⟨ok, hok, hd, _⟩ := hwk
          rcases hlx2 i k o ok hik ho hok with ⟨e, he, hb, hon⟩ | hap
          · have := hX k ok hk hok e he hb
            rw [hon] at this; exact absurd this hni
          · simp only [apartA, hw.1, hd, Bool.and_eq_true, Bool.not_eq_true', beq_self_eq_true] at hap
            exact absurd hap.1.2 (by simp)
        · exact hik
      · omega
    · rw [if_neg hw]
      have hnw : ¬ Wr nt ops i t := by
        rintro ⟨o', h1, h2, h3⟩
        rw [ho] at h1; cases h1
        exact hw ⟨h2, h3⟩
      rcases hs t with ⟨p, q1, q2, q3, q4⟩ | ⟨q1, q2⟩
      · refine .inl ⟨p, .inl q1, q2, fun k hk hwk => ?_, q4⟩
        rcases hk with hk | hk
        · exact q3 k hk hwk
        · subst hk; exact absurd hwk hnw
      · refine .inr ⟨fun k hk hwk => ?_, q2⟩
        rcases hk with hk | hk
        · exact q1 k hk hwk
        · subst hk; exact hnw hwk
  obtain ⟨m, hmle, rfl, hmX⟩ := hm
  have hstep := (tr.step i o ho).1
  cases hq : quietOp E o with
  | true =>
    have hiq : i ∈ quiets E ops := mem_quiets.2 ⟨o, ho, hq⟩
    have hine : i ∉ effs E ops := fun h => by
      obtain ⟨o', h1, h2⟩ := mem_effs.1 h
      rw [ho] at h1; cases h1
      rw [hq] at h2; cases h2
    have hval : xval E T share ops o s (Hh m) = some (V i, Hh m) := by
      rw [hcongr]
      have hsame := quietOp_same hq hstep
      rw [hsame] at hstep
      rcases Nat.lt_trichotomy m i with hmi | hmi | hmi
      · -- some operation that writes and stands ahead of i may not have come yet
        by_cases hex : ∃ e, e ∈ effs E ops ∧ m ≤ e ∧ e < i
        · -- the least such
          obtain ⟨e, he1, he2, he3, hmin⟩ : ∃ e, e ∈ effs E ops ∧ m ≤ e ∧ e < i ∧ ∀ f, f ∈ effs E ops → m ≤ f → e ≤ f := by
            obtain ⟨e0, h1, h2, h3⟩ := hex
            have : ∀ n e0, e0 ≤ n → e0 ∈ effs E ops → m ≤ e0 → e0 < i → ∃ e, e ∈ effs E ops ∧ m ≤ e ∧ e < i ∧ ∀ f, f ∈ effs E ops → m ≤ f → e ≤ f := by
              intro n
              induction n with
              | zero => intro e0 hn h1 h2 h3; exact ⟨e0, h1, h2, h3, fun f _ _ => by omega⟩
              | succ n ih =>
                intro e0 hn h1 h2 h3
                by_cases hsm : ∃ f, f ∈ effs E ops ∧ m ≤ f ∧ f < e0
                · obtain ⟨f, f1, f2, f3⟩ := hsm
                  exact ih f (by omega) f1 f2 (by omega)
                · exact ⟨e0, h1, h2, h3, fun f f1 f2 => Nat.le_of_not_lt fun h => hsm ⟨f, f1, f2, h⟩⟩
            exact this e0 e0 (Nat.le_refl _) h1 h2 h3
          have hnX : ¬ X e := fun h => by have := (hmX e he1).1 h; omega
          have hnp : preB (masks ops.toList []) i e = false := by
            cases hp : preB (masks ops.toList []) i e with
            | false => rfl
            | true =>
              exfalso
              obtain ⟨ed, a1, a2, a3⟩ := preB_step ho hp (hlx1 i o ho)
              have hXd := hready ed a1 a2
              rcases a3 with a3 | a3
              · rw [a3] at hXd; exact hnX hXd
              · exact hnX (hX.pre tr ed.on e hXd (hlt _ hXd) a3)
          have hst := tr.stab i e o ((mem_recs hiq he1).2 he3 hnp) ho
          have hconst := tr.mem_const (e - m) m (by have := (Array.getElem?_eq_some_iff.1 ho).1; omega) (fun f hf hh => by have := hmin f hf hh.1; omega)
          rw [show m + (e - m) = e by omega] at hconst
          rwa [hconst] at hst
        · have hconst := tr.mem_const (i - m) m (by omega) (fun f hf hh => hex ⟨f, hf, hh.1, by omega⟩)
          rw [show m + (i - m) = i by omega] at hconst
          rwa [hconst] at hstep
      · subst hmi; exact hstep
      · -- some that writes and stands behind i may have come already
        by_cases hex : ∃ e, e ∈ effs E ops ∧ i < e ∧ e < m
        · obtain ⟨e, he1, he2, he3, hmax⟩ : ∃ e, e ∈ effs E ops ∧ i < e ∧ e < m ∧ ∀ f, f ∈ effs E ops → f < m → f ≤ e := by
            obtain ⟨e0, h1, h2, h3⟩ := hex
            have : ∀ n e0, m - e0 ≤ n → e0 ∈ effs E ops → i < e0 → e0 < m → ∃ e, e ∈ effs E ops ∧ i < e ∧ e < m ∧ ∀ f, f ∈ effs E ops → f < m → f ≤ e := by
              intro n
              induction n with
              | zero => intro e0 hn h1 h2 h3; omega
              | succ n ih =>
                intro e0 hn h1 h2 h3
                by_cases hsm : ∃ f, f ∈ effs E ops ∧ f < m ∧ e0 < f
                · obtain ⟨f, f1, f2, f3⟩ := hsm
                  exact ih f (by omega) f1 (by omega) f2
                · exact ⟨e0, h1, h2, h3, fun f f1 f2 => Nat.le_of_not_lt fun h => hsm ⟨f, f1, f2, h⟩⟩
            exact this (m - e0) e0 (Nat.le_refl _) h1 h2 h3
          have hXe : X e := (hmX e he1).2 he3
          have hnp : preB (masks ops.toList []) e i = false := by
            cases hp : preB (masks ops.toList []) e i with
            | false => rfl
            | true => exact absurd (hX.pre tr e i hXe (hlt e hXe) hp) hni
          have hst := tr.stab i (e + 1) o ((mem_recs hiq he1).1 he2 hnp) ho
          have hconst := tr.mem_const (m - (e + 1)) (e + 1) (by omega) (fun f hf hh => by have := hmax f hf (by omega); omega)
          rw [show e + 1 + (m - (e + 1)) = m by omega] at hconst
          rwa [← hconst] at hst
        · have hconst := tr.mem_const (m - i) i (by omega) (fun f hf hh => by
            by_cases hfi : f = i
            · subst hfi; exact hine hf
            · exact hex ⟨f, hf, by omega, by omega⟩)
          rw [show i + (m - i) = m by omega] at hconst
          rwa [← hconst] at hstep
    refine ⟨Hh m, hval, hslot, m, hmle, rfl, fun e he => ?_⟩
    have hei : e ≠ i := fun h => hine (h ▸ he)
    rw [← hmX e he]
    exact ⟨fun h => h.resolve_right hei, .inl⟩
  | false =>
    have hie : i ∈ effs E ops := mem_effs.2 ⟨o, ho, hq⟩
    have hch := tr.chain
    unfold chainA at hch
    rw [List.all_eq_true] at hch
    have hpair : ∀ e f, e ∈ effs E ops → f ∈ effs E ops → e < f → preB (masks ops.toList []) f e = true := by
      intro e f he hf hef
      have := hch e he
      rw [List.all_eq_true] at this
      have := this f hf
      simpa [hef] using this
    have hbefore : ∀ e, e ∈ effs E ops → e < i → X e := by
      intro e he hei
      obtain ⟨ed, a1, a2, a3⟩ := preB_step ho (hpair e i he hie hei) (hlx1 i o ho)
      have hXd := hready ed a1 a2
      rcases a3 with a3 | a3
      · rw [← a3]; exact hXd
      · exact hX.pre tr ed.on e hXd (hlt _ hXd) a3
    have hafter : ∀ e, e ∈ effs E ops → i < e → ¬ X e := fun e he hie' hXe => hni (hX.pre tr e i hXe (hlt e hXe) (hpair i e hie he hie'))
    have hmem : Hh m = Hh i := by
      rcases Nat.lt_or_ge m i with hmi | hmi
      · have hconst := tr.mem_const (i - m) m (by omega) (fun f hf hh => by
          have := (hmX f hf).1 (hbefore f hf (by omega)); omega)
        rw [show m + (i - m) = i by omega] at hconst
        exact hconst.symm
      · rcases Nat.eq_or_lt_of_le hmi with h | h
        · rw [h]
        · exact absurd ((hmX i hie).2 h) hni
    refine ⟨Hh (i + 1), by rw [hcongr, hmem]; exact hstep, hslot, i + 1, by omega, rfl, fun e he => ?_⟩
    constructor
    · rintro (h | h)
      · rcases Nat.lt_or_ge i e with h1 | h1
        · exact absurd h (hafter e he h1)
        · omega
      · omega
    · intro h
      by_cases hei : e = i
      · exact .inr hei
      · exact .inl (hbefore e he (by omega))

end
end Go.Proofs.Ytokadkakmhfdeaa.Pq

/- Code in a short form, and what it comes to: a weakest precondition over abstract values. -/
import Derived.Test.YtokadkakmhfdeaaPqO
set_option linter.unusedVariables false
set_option linter.unusedSimpArgs false
namespace Go.Proofs.Ytokadkakmhfdeaa.Pq
open Go.RowKit

/-- An operation in short: slot, operation, the slot that guards it. -/
structure Co where
  d : Option Nat
  o : Op
  g : Option (Nat × Bool)

inductive Cc where
  | skip
  | reg (share : Bool) (l : List Co)
  | drw (share : Bool) (l : List Co) (rs : List (Nat × Nat))
  | seq (a b : Cc)
  | cond (c : Operand) (a b : Cc)
  | block (id : Nat) (b : Cc)
  | loop (lv : List Nat) (drop : Bool) (b : Cc)
  | exit (id : Nat)
  | ret
  | other

def coOf (ops : Array Oper) (o : Oper) : Co := ⟨o.dst, o.op, match o.guard with | none => none | some (j, want) => some (((ops[j]?).bind (·.dst)).getD 1000000, want)⟩
/-- The operation does not read the memory. -/
def memless (o : Oper) : Bool :=
  match o.op with
  | .move _ | .assign _ | .pick .. | .binOp .. | .unOp .. | .indexAddr .. | .fieldAddr .. | .nilCheck _ | .convert .. | .extract .. | .field .. | .index .. | .slice .. | .makeFunc .. => true
  | .call ⟨.builtin b, _, _⟩ => (match b with | .len | .min | .max => true | _ => false)
  | _ => false
def memlessAt (ops : Array Oper) (q : Nat) : Bool := match ops[q]? with | some o => memless o | none => false

def shortC (A : Ann) : Code → Cc
  | .skip => .skip
  | .label _ => .skip
  | .region id ops draw =>
    if draw = true then (match (A.recs id).filter fun p => !memlessAt ops p.1 with
      | [] => .reg (A.share id) (ops.toList.map (coOf ops))
      | p :: l => .drw (A.share id) (ops.toList.map (coOf ops)) (p :: l))
    else .reg (A.share id) (ops.toList.map (coOf ops))
  | .seq a b => .seq (shortC A a) (shortC A b)
  | .cond c a b => .cond c (shortC A a) (shortC A b)
  | .block id b => .block id (shortC A b)
  | .loop b => .loop (A.live (firstReg b)) (A.drop (firstReg b)) (shortC A b)
  | .exit id => .exit id
  | .ret => .ret
  | _ => .other

/-- Every slot that is written is one; guards too. -/
def okOps (nt : Nat) (ops : Array Oper) : Bool := ops.all fun o => (match o.dst with | some d => decide (d < nt) | none => true)
def okSlots (nt : Nat) : Code → Bool
  | .region _ ops draw => okOps nt ops
  | .seq a b => okSlots nt a && okSlots nt b
  | .cond _ a b => okSlots nt a && okSlots nt b
  | .block _ b => okSlots nt b
  | .loop b => okSlots nt b
  | _ => true

def opt {α : Type} (x : Option α) (f : α → Prop) : Prop := match x with | some a => f a | none => False
theorem opt_some {α : Type} (a : α) (f : α → Prop) : opt (some a) f = f a := rfl
theorem opt_none {α : Type} (f : α → Prop) : opt none f = False := rfl
theorem opt_ite {α : Type} (c : Prop) [Decidable c] (x : Option α) (f : α → Prop) : opt (if c then x else none) f = (c ∧ opt x f) := by
  by_cases h : c <;> simp [h, opt]
theorem opt_ite' {α : Type} (c : Prop) [Decidable c] (x : Option α) (f : α → Prop) : opt (if c then none else x) f = (¬ c ∧ opt x f) := by
  by_cases h : c <;> simp [h, opt]
theorem opt_map {α β : Type} (x : Option α) (g : α → β) (f : β → Prop) : opt (x.map g) f = opt x fun a => f (g a) := by cases x <;> rfl
theorem opt_bind {α β : Type} (x : Option α) (g : α → Option β) (f : β → Prop) : opt (x.bind g) f = opt x fun a => opt (g a) f := by cases x <;> rfl
theorem opt_iff {α : Type} {x : Option α} {f : α → Prop} (h : opt x f) : ∃ a, x = some a ∧ f a := by
  cases x with
  | none => exact h.elim
  | some a => exact ⟨a, rfl, h⟩
theorem opt_of {α : Type} {x : Option α} {f : α → Prop} {a : α} (h : x = some a) (hf : f a) : opt x f := by rw [h]; exact hf

def cput (d : Option Nat) (v : AV) (s : Sl) : Sl := match d with | some d => (d, v) :: s | none => s

/-- A guarded step. -/
def XG (g : Option (Nat × Bool)) (s : Sl) (yes no : Prop) : Prop :=
  match g with
  | none => yes
  | some (j, want) => (match get s j with | .bool b => (b = want → yes) ∧ (b ≠ want → no) | .tup _ => no | _ => False)

def XL (E : Env) (T : Tab) (share : Bool) : List Co → Sl → Hp → (Sl → Hp → Prop) → Prop
  | [], s, H, R => R s H
  | o :: l, s, H, R => XG o.g s (opt (xdo E T share o.o s H) fun r => XL E T share l (cput o.d r.1 s) r.2 R) (XL E T share l (cput o.d (.tup []) s) H R)

/-- With what it went through. -/
def XT (E : Env) (T : Tab) (share : Bool) : List Co → Sl → Hp → List (Sl × Hp) → (List (Sl × Hp) → Sl → Hp → Prop) → Prop
  | [], s, H, tr, R => R (tr ++ [(s, H)]) s H
  | o :: l, s, H, tr, R => XG o.g s (opt (xdo E T share o.o s H) fun r => XT E T share l (cput o.d r.1 s) r.2 (tr ++ [(s, H)]) R) (XT E T share l (cput o.d (.tup []) s) H (tr ++ [(s, H)]) R)

def again (E : Env) (T : Tab) (share : Bool) (l : List Co) (tr : List (Sl × Hp)) : List (Nat × Nat) → Prop
  | [] => True
  | (q, k) :: rs => (match l[q]?, tr[q]?, tr[k]? with
    | some o, some (s, H), some (_, H') => XG o.g s ((xdo E T share o.o s H').map (·.1) = (xdo E T share o.o s H).map (·.1)) True
    | _, _, _ => False) ∧ again E T share l tr rs

def X (E : Env) (T : Tab) : Cc → Sl → Hp → (Ex → Sl → Hp → Prop) → Prop
  | .skip, s, H, Q => Q .norm s H
  | .reg share l, s, H, Q => XL E T share l s H fun s' H' => Q .norm s' H'
  | .drw share l rs, s, H, Q => XT E T share l s H [] fun tr s' H' => again E T share l tr rs ∧ Q .norm s' H'
  | .seq a b, s, H, Q => X E T a s H fun x s' H' => match x with | .norm => X E T b s' H' Q | x => Q x s' H'
  | .cond c a b, s, H, Q => (match ev s c with | .bool t => (t = true → X E T a s H Q) ∧ (t = false → X E T b s H Q) | _ => False)
  | .block id b, s, H, Q => X E T b s H fun x s' H' => match x with | .exit j => Q (if j = id then .norm else .exit j) s' H' | x => Q x s' H'
  | .loop lv drop b, s, H, Q => ∃ I : Nat → Sl → Hp → Prop, (∃ m, I m s H) ∧ ∀ m s1 H1, I m s1 H1 → X E T b (cutSl lv s1) (if drop = true then H1.take H.bs.length else H1) fun x s' H' => match x with | .norm => ∃ m', m' < m ∧ I m' s' H' | x => Q x s' H'
  | .exit id, s, H, Q => Q (.exit id) s H
  | .ret, s, H, Q => Q .ret s H
  | .other, _, _, _ => False

section
variable {E : Env} {T : Tab} {A : Ann} {nt : Nat}

theorem xloop_mono {f g : Sl → Hp → Option (Ex × Sl × Hp)} (hfg : ∀ s H r, f s H = some r → g s H = some r) {lv : List Nat} {drop : Bool} {n : Nat} : ∀ (k k' : Nat) (s : Sl) (H : Hp) (r : Ex × Sl × Hp), k ≤ k' → xloop f lv drop n k s H = some r → xloop g lv drop n k' s H = some r := by
  intro k
  induction k with
  | zero => intro k' s H r _ h; simp [xloop] at h
  | succ k ih =>
    intro k' s H r hk h
    obtain ⟨k'', rfl⟩ : ∃ k'', k' = k'' + 1 := ⟨k' - 1, by omega⟩
    simp only [xloop] at h ⊢
    cases hf : f (cutSl lv s) (if drop = true then H.take n else H) with
    | none => rw [hf] at h; cases h
    | some q =>
      rw [hfg _ _ _ hf]
      rw [hf] at h
      obtain ⟨x, s', H'⟩ := q
      cases x with
      | norm => exact ih k'' s' H' r (by omega) h
      | exit id => exact h
      | ret => exact h

theorem xcode_mono {k k' : Nat} (hk : k ≤ k') : ∀ (c : Code) (s : Sl) (H : Hp) (r : Ex × Sl × Hp), xcode E T A nt k c s H = some r → xcode E T A nt k' c s H = some r := by
  intro c
  induction c with
  | seq a b iha ihb =>
    intro s H r h
    simp only [xcode] at h ⊢
    cases ha : xcode E T A nt k a s H with
    | none => rw [ha] at h; cases h
    | some q =>
      rw [iha _ _ _ ha]; rw [ha] at h
      obtain ⟨x, s', H'⟩ := q
      cases x with
      | norm => exact ihb _ _ _ h
      | exit id => exact h
      | ret => exact h
  | cond c a b iha ihb =>
    intro s H r h
    simp only [xcode] at h ⊢
    split at h
    · exact iha _ _ _ h
    · exact ihb _ _ _ h
    · cases h
  | block id b ih =>
    intro s H r h
    simp only [xcode] at h ⊢
    cases hb : xcode E T A nt k b s H with
    | none => rw [hb] at h; cases h
    | some q => rw [ih _ _ _ hb]; rw [hb] at h; exact h
  | loop b ih =>
    intro s H r h
    simp only [xcode] at h ⊢
    exact xloop_mono ih k k' s H r hk h
  | skip => intro s H r h; simpa only [xcode] using h
  | label l => intro s H r h; simpa only [xcode] using h
  | region id ops d => intro s H r h; simpa only [xcode] using h
  | exit id => intro s H r h; simpa only [xcode] using h
  | ret => intro s H r h; simpa only [xcode] using h
  | _ => intro s H r h; simp only [xcode] at h; cases h

theorem cput_eq {d : Option Nat} (h : (match d with | some d => decide (d < nt) | none => true) = true) (v : AV) (s : Sl) : aput nt d v s = cput d v s := by
  cases d with
  | none => rfl
  | some d => simp only [decide_eq_true_eq] at h; simp [aput, cput, h]

theorem XG_elim {ops : Array Oper} {o : Oper} {s : Sl} {yes no : Prop} (hc : get s 1000000 = .bad) (h : XG (coOf ops o).g s yes no) : ∃ b, wantedA ops o s = some b ∧ (b = true → yes) ∧ (b = false → no) := by
  unfold XG coOf at h
  unfold wantedA
  cases hg : o.guard with
  | none => rw [hg] at h; exact ⟨true, rfl, fun _ => h, fun e => (Bool.noConfusion e)⟩
  | some p =>
    obtain ⟨j, want⟩ := p
    rw [hg] at h
    simp only at h ⊢
    cases hd : (ops[j]?).bind (·.dst) with
    | none => rw [hd] at h; simp only [Option.getD_none, hc] at h
    | some d =>
      rw [hd] at h
      simp only [Option.getD_some] at h ⊢
      cases hv : get s d with
      | bool b =>
        rw [hv] at h
        refine ⟨b == want, rfl, fun e => h.1 (by simpa using e), fun e => h.2 (by simpa using e)⟩
      | tup cs => rw [hv] at h; exact ⟨false, rfl, fun e => (Bool.noConfusion e), fun _ => h⟩
      | _ => rw [hv] at h; exact h.elim

theorem XL_sound {ops : Array Oper} (hops : okOps nt ops = true) (hnt : nt ≤ 1000000) {share : Bool} {R : Sl → Hp → Prop} : ∀ (l : List Oper), (∀ o ∈ l, o ∈ ops.toList) → ∀ s H, get s 1000000 = .bad → XL E T share (l.map (coOf ops)) s H R → ∃ s' H', xlist E T share nt ops l s H = some (s', H') ∧ R s' H' ∧ get s' 1000000 = .bad := by
  intro l
  induction l with
  | nil => intro _ s H hc h; exact ⟨s, H, rfl, h, hc⟩
  | cons o l ih =>
    intro hm s H hc h
    have ho : (match o.dst with | some d => decide (d < nt) | none => true) = true := by
      have := hm o (by simp)
      unfold okOps at hops
      rw [Array.all_eq_true'] at hops
      exact hops o (by simpa using this)
    have hcp : ∀ v, get (cput o.dst v s) 1000000 = .bad := by
      intro v
      cases hd : o.dst with
      | none => exact hc
      | some d =>
        have ho : d < nt := by simpa [hd] using ho
        simp only [cput, get]
        rw [if_neg (Nat.ne_of_gt (Nat.lt_of_lt_of_le ho hnt))]
        exact hc
    simp only [List.map_cons, XL] at h
    obtain ⟨b, hw, h1, h2⟩ := XG_elim hc h
    simp only [xlist, xop, hw]
    cases b with
    | true =>
      obtain ⟨r, hr, h3⟩ := opt_iff (h1 rfl)
      have : xdo E T share o.op s H = some r := hr
      rw [this]
      simp only [Option.map_some, cput_eq ho]
      exact ih (fun o' h' => hm o' (by simp [h'])) _ _ (hcp _) h3
    | false =>
      simp only [cput_eq ho]
      exact ih (fun o' h' => hm o' (by simp [h'])) _ _ (hcp _) (h2 rfl)

theorem XT_sound {ops : Array Oper} (hops : okOps nt ops = true) (hnt : nt ≤ 1000000) {share : Bool} {R : List (Sl × Hp) → Sl → Hp → Prop} : ∀ (l : List Oper), (∀ o ∈ l, o ∈ ops.toList) → ∀ s H pre, get s 1000000 = .bad → XT E T share (l.map (coOf ops)) s H pre R →
    ∃ tr s' H', xtr E T share nt ops l s H = some tr ∧ R (pre ++ tr) s' H' ∧ tr[l.length]? = some (s', H') ∧ get s' 1000000 = .bad := by
  intro l
  induction l with
  | nil => intro _ s H pre hc h; exact ⟨[(s, H)], s, H, rfl, h, rfl, hc⟩
  | cons o l ih =>
    intro hm s H pre hc h
    have ho : (match o.dst with | some d => decide (d < nt) | none => true) = true := by
      have := hm o (by simp)
      unfold okOps at hops
      rw [Array.all_eq_true'] at hops
      exact hops o (by simpa using this)
    have hcp : ∀ v, get (cput o.dst v s) 1000000 = .bad := by
      intro v
      cases hd : o.dst with
      | none => exact hc
      | some d =>
        have ho : d < nt := by simpa [hd] using ho
        simp only [cput, get]
        rw [if_neg (Nat.ne_of_gt (Nat.lt_of_lt_of_le ho hnt))]
        exact hc
    simp only [List.map_cons, XT] at h
    obtain ⟨b, hw, h1, h2⟩ := XG_elim hc h
    simp only [xtr, xop, hw]
    cases b with
    | true =>
      obtain ⟨r, hr, h3⟩ := opt_iff (h1 rfl)
      have : xdo E T share o.op s H = some r := hr
      rw [this]
      simp only [Option.map_some, cput_eq ho]
      obtain ⟨tr, s', H', e1, e2, e3, e4⟩ := ih (fun o' h' => hm o' (by simp [h'])) _ _ _ (hcp _) h3
      rw [e1]
      exact ⟨_, s', H', rfl, by simpa using e2, by simpa using e3, e4⟩
    | false =>
      simp only [cput_eq ho]
      obtain ⟨tr, s', H', e1, e2, e3, e4⟩ := ih (fun o' h' => hm o' (by simp [h'])) _ _ _ (hcp _) (h2 rfl)
      rw [e1]
      exact ⟨_, s', H', rfl, by simpa using e2, by simpa using e3, e4⟩

theorem memless_any {o : Oper} (h : memless o = true) (share : Bool) (s : Sl) (H H' : Hp) : (xdo E T share o.op s H).map (·.1) = (xdo E T share o.op s H').map (·.1) := by
  have mm : ∀ {α : Type} (x : Option α) (f : α → AV) (H H' : Hp), (x.map fun v => (f v, H)).map (·.1) = (x.map fun v => (f v, H')).map (·.1) := by
    intro α x f H H'; cases x <;> rfl
  have bm : ∀ {α : Type} (x : Option α) (f g : α → Option (AV × Hp)), (∀ a, (f a).map (·.1) = (g a).map (·.1)) → (x.bind f).map (·.1) = (x.bind g).map (·.1) := by
    intro α x f g hfg; cases x with
    | none => rfl
    | some a => exact hfg a
  obtain ⟨dst, op, ty, pos, aft, gd⟩ := o
  simp only at h ⊢
  unfold memless at h
  unfold xdo
  cases op <;> simp only at h ⊢ <;> first
    | (cases h; done)
    | skip
  case call c =>
    obtain ⟨cal, as, tys⟩ := c
    cases cal with
    | builtin b =>
      cases b <;> simp only at h ⊢ <;> first
        | (cases h; done)
        | skip
      all_goals (simp only [aop]; repeat' split) <;> first | rfl | contradiction | exact mm _ _ _ _ | (cases ‹Tab.d T _ = _›) | skip
    | _ => cases h
  all_goals (simp only [aop]; repeat' split) <;> first | rfl | exact mm _ _ _ _ | exact bm _ _ _ (fun _ => rfl) | exact bm _ _ _ (fun _ => mm _ _ _ _) | exact bm _ _ _ (fun _ => by split <;> rfl) | exact bm _ _ _ (fun _ => by split <;> first | rfl | exact mm _ _ _ _) | exact bm _ _ _ (fun _ => bm _ _ _ fun _ => by split <;> rfl) | exact bm _ _ _ (fun _ => bm _ _ _ fun _ => by split <;> first | rfl | exact mm _ _ _ _) | skip

theorem again_sound {ops : Array Oper} {share : Bool} {tr : List (Sl × Hp)} (htr : ∀ (q : Nat) (s : Sl) (H : Hp), tr[q]? = some (s, H) → get s 1000000 = .bad) (hlen : tr.length = ops.size + 1) : ∀ (rs : List (Nat × Nat)), (∀ p ∈ rs, p.1 < ops.size ∧ p.2 ≤ ops.size) →
    again E T share (ops.toList.map (coOf ops)) tr (rs.filter fun p => !memlessAt ops p.1) → Restab E T share ops tr rs := by
  intro rs
  induction rs with
  | nil => intro _ _; trivial
  | cons p rs ih =>
    intro hb h
    obtain ⟨q, k⟩ := p
    have hq := hb (q, k) (by simp)
    simp only at hq
    have hqt : q < tr.length := by omega
    have hkt : k < tr.length := by omega
    have ho : ops[q]? = some ops[q] := Array.getElem?_eq_getElem hq.1
    have e1 : tr[q]? = some tr[q] := List.getElem?_eq_getElem hqt
    have e2 : tr[k]? = some tr[k] := List.getElem?_eq_getElem hkt
    refine ⟨?_, ?_⟩
    · rw [ho, e1, e2]
      simp only
      have hc : get tr[q].1 1000000 = .bad := htr q tr[q].1 tr[q].2 (by rw [e1])
      simp only [xval]
      cases hm : memlessAt ops q with
      | true =>
        simp only [memlessAt, ho] at hm
        cases hw : wantedA ops ops[q] tr[q].1 with
        | none => rfl
        | some b => cases b with
          | false => rfl
          | true => exact memless_any hm _ _ _ _
      | false =>
        have hf : ((q, k) :: rs).filter (fun p => !memlessAt ops p.1) = (q, k) :: rs.filter fun p => !memlessAt ops p.1 := by simp [List.filter_cons, hm]
        rw [hf] at h
        have h1 := h.1
        rw [List.getElem?_map, show ops.toList[q]? = some ops[q] by simp [ho], e1, e2] at h1
        simp only [Option.map_some] at h1
        obtain ⟨b, hw, g1, g2⟩ := XG_elim hc h1
        rw [hw]
        cases b with
        | false => rfl
        | true => exact g1 rfl
    · refine ih (fun p hp => hb p (by simp [hp])) ?_
      cases hm : memlessAt ops q with
      | true => simpa [List.filter_cons, hm] using h
      | false =>
        have hf : ((q, k) :: rs).filter (fun p => !memlessAt ops p.1) = (q, k) :: rs.filter fun p => !memlessAt ops p.1 := by simp [List.filter_cons, hm]
        rw [hf] at h
        exact h.2

/-- The recs of each drawing region point into it. -/
def okRecs (A : Ann) : Code → Bool
  | .region id ops draw => !draw || (A.recs id).all fun p => decide (p.1 < ops.size ∧ p.2 ≤ ops.size)
  | .seq a b => okRecs A a && okRecs A b
  | .cond _ a b => okRecs A a && okRecs A b
  | .block _ b => okRecs A b
  | .loop b => okRecs A b
  | _ => true

theorem xtr_all {ops : Array Oper} (hops : okOps nt ops = true) (hnt : nt ≤ 1000000) {share : Bool} : ∀ (l : List Oper), (∀ o ∈ l, o ∈ ops.toList) → ∀ s H tr, get s 1000000 = .bad → xtr E T share nt ops l s H = some tr →
    tr.length = l.length + 1 ∧ ∀ (q : Nat) (s : Sl) (H : Hp), tr[q]? = some (s, H) → get s 1000000 = .bad := by
  intro l
  induction l with
  | nil =>
    intro _ s H tr hc h
    simp only [xtr, Option.some.injEq] at h
    subst h
    refine ⟨rfl, fun q s' H' hq => ?_⟩
    cases q with
    | zero => simp at hq; rw [← hq.1]; exact hc
    | succ q => simp at hq
  | cons o l ih =>
    intro hm s H tr hc h
    have ho : (match o.dst with | some d => decide (d < nt) | none => true) = true := by
      have := hm o (by simp)
      unfold okOps at hops
      rw [Array.all_eq_true'] at hops
      exact hops o (by simpa using this)
    have hcp : ∀ v, get (aput nt o.dst v s) 1000000 = .bad := by
      intro v
      cases hd : o.dst with
      | none => exact hc
      | some d =>
        have ho : d < nt := by simpa [hd] using ho
        simp only [aput, if_pos ho, get]
        rw [if_neg (Nat.ne_of_gt (Nat.lt_of_lt_of_le ho hnt))]
        exact hc
    simp only [xtr] at h
    split at h
    · rename_i s' H' hx
      obtain ⟨tr', h1, rfl⟩ := Option.map_eq_some_iff.1 h
      rw [xop_val] at hx
      obtain ⟨r, _, hr⟩ := Option.map_eq_some_iff.1 hx
      cases hr
      obtain ⟨g1, g2⟩ := ih (fun o' h' => hm o' (by simp [h'])) _ _ tr' (hcp _) h1
      refine ⟨by simp [g1], fun q s' H' hq => ?_⟩
      cases q with
      | zero => simp at hq; rw [← hq.1]; exact hc
      | succ q => exact g2 q s' H' (by simpa using hq)
    · cases h

theorem X_sound (hnt : nt ≤ 1000000) : ∀ (c : Code), okSlots nt c = true → okRecs A c = true → ∀ (s : Sl) (H : Hp) (Q : Ex → Sl → Hp → Prop), get s 1000000 = .bad → X E T (shortC A c) s H Q →
    ∃ k x s' H', xcode E T A nt k c s H = some (x, s', H') ∧ Q x s' H' ∧ get s' 1000000 = .bad := by
  intro c
  induction c with
  | skip => intro _ _ s H Q hc h; exact ⟨0, _, _, _, by simp only [xcode], h, hc⟩
  | label l => intro _ _ s H Q hc h; exact ⟨0, _, _, _, by simp only [xcode], h, hc⟩
  | exit id => intro _ _ s H Q hc h; exact ⟨0, _, _, _, by simp only [xcode], h, hc⟩
  | ret => intro _ _ s H Q hc h; exact ⟨0, _, _, _, by simp only [xcode], h, hc⟩
  | region id ops draw =>
    intro hs hr s H Q hc h
    simp only [okSlots] at hs
    refine ⟨0, .norm, ?_⟩
    simp only [xcode]
    -- the text's order
    have key : draw = false → X E T (.reg (A.share id) (ops.toList.map (coOf ops))) s H Q → ∃ s' H', xlist E T (A.share id) nt ops ops.toList s H = some (s', H') ∧ Q .norm s' H' ∧ get s' 1000000 = .bad := by
      intro _ h
      exact XL_sound hs hnt _ (fun _ h => h) _ _ hc h
    cases draw with
    | false =>
      simp only [shortC, Bool.false_eq_true, if_false] at h
      obtain ⟨s', H', h1, h2, h3⟩ := key rfl h
      exact ⟨s', H', by simp [h1], h2, h3⟩
    | true =>
      simp only [okRecs, Bool.not_true, Bool.false_or, List.all_eq_true, decide_eq_true_eq] at hr
      simp only [shortC, if_true] at h ⊢
      have fin : ∀ tr s' H', xtr E T (A.share id) nt ops ops.toList s H = some tr → again E T (A.share id) (ops.toList.map (coOf ops)) tr ((A.recs id).filter fun p => !memlessAt ops p.1) → tr[ops.toList.length]? = some (s', H') → xdraw E T (A.share id) nt ops (A.recs id) s H = some (s', H') := by
        intro tr s' H' e1 e2 e3
        obtain ⟨g1, g2⟩ := xtr_all hs hnt _ (fun _ h => h) _ _ _ hc e1
        unfold xdraw
        rw [e1]
        simp only
        rw [if_pos (again_sound g2 (by simpa using g1) _ hr e2)]
        simpa using e3
      split at h
      · rename_i he
        -- all rechecks are void
        have h' : XT E T (A.share id) (ops.toList.map (coOf ops)) s H [] fun tr s' H' => Q .norm s' H' := by
          have : ∀ (l : List Co) (s : Sl) (H : Hp) (pre : List (Sl × Hp)), XL E T (A.share id) l s H (fun s' H' => Q .norm s' H') → XT E T (A.share id) l s H pre fun tr s' H' => Q .norm s' H' := by
            intro l
            induction l with
            | nil => intro s H pre h; exact h
            | cons o l ih =>
              intro s H pre h
              simp only [XL, XT] at h ⊢
              have mono : ∀ {a b c d : Prop} (g : Option (Nat × Bool)), (a → c) → (b → d) → XG g s a b → XG g s c d := by
                intro a b c d g h1 h2 h
                unfold XG at h ⊢
                split at h
                · exact h1 h
                · split at h
                  · exact ⟨fun e => h1 (h.1 e), fun e => h2 (h.2 e)⟩
                  · exact h2 h
                  · exact h.elim
              refine mono _ (fun h => ?_) (ih _ _ _) h
              obtain ⟨r, e1, e2⟩ := opt_iff h
              exact opt_of e1 (ih _ _ _ e2)
          exact this _ _ _ _ h
        obtain ⟨tr, s', H', h1, h2, h3, h4⟩ := XT_sound hs hnt _ (fun _ h => h) _ _ _ hc h'
        exact ⟨s', H', by rw [fin tr s' H' h1 (by rw [he]; trivial) h3]; rfl, h2, h4⟩
      · rename_i p l he
        obtain ⟨tr, s', H', h1, h2, h3, h4⟩ := XT_sound hs hnt _ (fun _ h => h) _ _ _ hc h
        exact ⟨s', H', by rw [fin tr s' H' h1 (by rw [he]; exact h2.1) h3]; rfl, h2.2, h4⟩
  | seq a b iha ihb =>
    intro hs hr s H Q hc h
    simp only [okSlots, okRecs, Bool.and_eq_true] at hs hr
    obtain ⟨k1, x, s1, H1, h1, h2, h3⟩ := iha hs.1 hr.1 s H _ hc h
    cases x with
    | norm =>
      obtain ⟨k2, x2, s2, H2, g1, g2, g3⟩ := ihb hs.2 hr.2 s1 H1 _ h3 h2
      refine ⟨max k1 k2, x2, s2, H2, ?_, g2, g3⟩
      simp only [xcode, xcode_mono (Nat.le_max_left k1 k2) _ _ _ _ h1]
      exact xcode_mono (Nat.le_max_right k1 k2) _ _ _ _ g1
    | exit id => exact ⟨k1, _, s1, H1, by simp only [xcode, h1], h2, h3⟩
    | ret => exact ⟨k1, _, s1, H1, by simp only [xcode, h1], h2, h3⟩
  | cond c a b iha ihb =>
    intro hs hr s H Q hc h
    simp only [okSlots, okRecs, Bool.and_eq_true] at hs hr
    simp only [shortC, X] at h
    split at h
    · rename_i t ht
      cases t with
      | true =>
        obtain ⟨k, x, s1, H1, h1, h2⟩ := iha hs.1 hr.1 s H _ hc (h.1 rfl)
        exact ⟨k, x, s1, H1, by simp only [xcode, ht]; exact h1, h2⟩
      | false =>
        obtain ⟨k, x, s1, H1, h1, h2⟩ := ihb hs.2 hr.2 s H _ hc (h.2 rfl)
        exact ⟨k, x, s1, H1, by simp only [xcode, ht]; exact h1, h2⟩
    · exact h.elim
  | block id b ih =>
    intro hs hr s H Q hc h
    simp only [okSlots, okRecs] at hs hr
    obtain ⟨k, x, s1, H1, h1, h2, h3⟩ := ih hs hr s H _ hc h
    cases x with
    | norm => exact ⟨k, _, s1, H1, by simp only [xcode, h1], h2, h3⟩
    | exit j => exact ⟨k, _, s1, H1, by simp only [xcode, h1], h2, h3⟩
    | ret => exact ⟨k, _, s1, H1, by simp only [xcode, h1], h2, h3⟩
  | loop b ih =>
    intro hs hr s H Q hc h
    simp only [okSlots, okRecs] at hs hr
    simp only [shortC, X] at h
    obtain ⟨I, ⟨m, hm⟩, hI⟩ := h
    have hcut : ∀ s : Sl, get s 1000000 = .bad → get (cutSl (A.live (firstReg b)) s) 1000000 = .bad := by
      intro s hs
      unfold cutSl
      induction A.live (firstReg b) with
      | nil => rfl
      | cons j lv ih2 =>
        simp only [List.map_cons, get]
        by_cases hj : 1000000 = j
        · rw [if_pos hj, ← hj]; exact hs
        · rw [if_neg hj]; exact ih2
    have key : ∀ m s1 H1, get s1 1000000 = .bad → I m s1 H1 → ∃ k x s' H', xloop (xcode E T A nt k b) (A.live (firstReg b)) (A.drop (firstReg b)) H.bs.length k s1 H1 = some (x, s', H') ∧ Q x s' H' ∧ get s' 1000000 = .bad := by
      intro m
      induction m using Nat.strongRecOn with
      | _ m ihm =>
        intro s1 H1 hc1 h1
        obtain ⟨k, x, s2, H2, g1, g2, g3⟩ := ih hs hr _ _ _ (hcut s1 hc1) (hI m s1 H1 h1)
        cases x with
        | norm =>
          obtain ⟨m', hm', hi'⟩ := g2
          obtain ⟨k', x', s', H', e1, e2, e3⟩ := ihm m' hm' s2 H2 g3 hi'
          refine ⟨max k k' + 1, x', s', H', ?_, e2, e3⟩
          simp only [xloop]
          rw [xcode_mono (show k ≤ max k k' + 1 by omega) _ _ _ _ g1]
          exact xloop_mono (fun s H r => xcode_mono (show k' ≤ max k k' + 1 by omega) _ _ _ _) k' _ _ _ _ (by omega) e1
        | exit id =>
          refine ⟨k + 1, _, s2, H2, ?_, g2, g3⟩
          simp only [xloop]
          rw [xcode_mono (show k ≤ k + 1 by omega) _ _ _ _ g1]
        | ret =>
          refine ⟨k + 1, _, s2, H2, ?_, g2, g3⟩
          simp only [xloop]
          rw [xcode_mono (show k ≤ k + 1 by omega) _ _ _ _ g1]
    obtain ⟨k, x, s', H', e1, e2, e3⟩ := key m s H hc hm
    exact ⟨k, x, s', H', by simp only [xcode]; exact e1, e2, e3⟩
  | _ => intro _ _ s H Q hc h; exact h.elim

end
end Go.Proofs.Ytokadkakmhfdeaa.Pq

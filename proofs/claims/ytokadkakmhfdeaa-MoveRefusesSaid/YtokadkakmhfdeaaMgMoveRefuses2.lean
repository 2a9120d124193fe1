/- What the proof of a statement of this seat rests on, part 2: PqP, PqQ, PqR, PqS, PqU. -/
import Derived.Test.YtokadkakmhfdeaaMgMoveRefuses1
set_option linter.unusedVariables false
set_option linter.unusedSimpArgs false
set_option linter.unusedSectionVars false
namespace Go.Proofs.Ytokadkakmhfdeaa.Pq
open Go.RowKit
/- Code in a short form, and what it comes to: a weakest precondition over abstract values. -/
/-- An operation in short: slot, operation, the slot that guards it. -/
structure Co where
  d : Option Nat
  o : Op
  g : Option (Nat × Bool)
inductive Cc where
  | skip
  | reg (share : Bool) (l : List Co)
  | drw (share : Bool) (l : List Co) (rs : List (Nat × Nat))
  | seq (a b : Cc)
  | cond (c : Operand) (a b : Cc)
  | block (id : Nat) (b : Cc)
  | loop (lv : List Nat) (drop : Bool) (b : Cc)
  | exit (id : Nat)
  | ret
  | other
def coOf (ops : Array Oper) (o : Oper) : Co := ⟨o.dst, o.op, match o.guard with | none => none | some (j, want) => some (((ops[j]?).bind (·.dst)).getD 1000000, want)⟩
/-- The operation does not read the memory. -/
def memless (o : Oper) : Bool :=
  match o.op with
  | .move _ | .assign _ | .pick .. | .binOp .. | .unOp .. | .indexAddr .. | .fieldAddr .. | .nilCheck _ | .convert .. | .extract .. | .field .. | .index .. | .slice .. | .makeFunc .. => true
  | .call ⟨.builtin b, _, _⟩ => (match b with | .len | .min | .max => true | _ => false)
  | _ => false
def memlessAt (ops : Array Oper) (q : Nat) : Bool := match ops[q]? with | some o => memless o | none => false
def shortC (A : Ann) : Code → Cc
  | .skip => .skip
  | .label _ => .skip
  | .region id ops draw =>
    if draw = true then (match (A.recs id).filter fun p => !memlessAt ops p.1 with
      | [] => .reg (A.share id) (ops.toList.map (coOf ops))
      | p :: l => .drw (A.share id) (ops.toList.map (coOf ops)) (p :: l))
    else .reg (A.share id) (ops.toList.map (coOf ops))
  | .seq a b => .seq (shortC A a) (shortC A b)
  | .cond c a b => .cond c (shortC A a) (shortC A b)
  | .block id b => .block id (shortC A b)
  | .loop b => .loop (A.live (firstReg b)) (A.drop (firstReg b)) (shortC A b)
  | .exit id => .exit id
  | .ret => .ret
  | _ => .other
/-- Every slot that is written is one; guards too. -/
def okOps (nt : Nat) (ops : Array Oper) : Bool := ops.all fun o => (match o.dst with | some d => decide (d < nt) | none => true)
def okSlots (nt : Nat) : Code → Bool
  | .region _ ops draw => okOps nt ops
  | .seq a b => okSlots nt a && okSlots nt b
  | .cond _ a b => okSlots nt a && okSlots nt b
  | .block _ b => okSlots nt b
  | .loop b => okSlots nt b
  | _ => true
def opt {α : Type} (x : Option α) (f : α → Prop) : Prop := match x with | some a => f a | none => False
theorem opt_some {α : Type} (a : α) (f : α → Prop) : opt (some a) f = f a := rfl
theorem opt_iff {α : Type} {x : Option α} {f : α → Prop} (h : opt x f) : ∃ a, x = some a ∧ f a := by
  cases x with
  | none => exact h.elim
  | some a => exact ⟨a, rfl, h⟩
theorem opt_of {α : Type} {x : Option α} {f : α → Prop} {a : α} (h : x = some a) (hf : f a) : opt x f := by rw [h]; exact hf
def cput (d : Option Nat) (v : AV) (s : Sl) : Sl := match d with | some d => (d, v) :: s | none => s
/-- A guarded step. -/
def XG (g : Option (Nat × Bool)) (s : Sl) (yes no : Prop) : Prop :=
  match g with
  | none => yes
  | some (j, want) => (match get s j with | .bool b => (b = want → yes) ∧ (b ≠ want → no) | .tup _ => no | _ => False)
def XL (E : Env) (T : Tab) (share : Bool) : List Co → Sl → Hp → (Sl → Hp → Prop) → Prop
  | [], s, H, R => R s H
  | o :: l, s, H, R => XG o.g s (opt (xdo E T share o.o s H) fun r => XL E T share l (cput o.d r.1 s) r.2 R) (XL E T share l (cput o.d (.tup []) s) H R)
/-- With what it went through. -/
def XT (E : Env) (T : Tab) (share : Bool) : List Co → Sl → Hp → List (Sl × Hp) → (List (Sl × Hp) → Sl → Hp → Prop) → Prop
  | [], s, H, tr, R => R (tr ++ [(s, H)]) s H
  | o :: l, s, H, tr, R => XG o.g s (opt (xdo E T share o.o s H) fun r => XT E T share l (cput o.d r.1 s) r.2 (tr ++ [(s, H)]) R) (XT E T share l (cput o.d (.tup []) s) H (tr ++ [(s, H)]) R)
def again (E : Env) (T : Tab) (share : Bool) (l : List Co) (tr : List (Sl × Hp)) : List (Nat × Nat) → Prop
  | [] => True
  | (q, k) :: rs => (match l[q]?, tr[q]?, tr[k]? with
    | some o, some (s, H), some (_, H') => XG o.g s ((xdo E T share o.o s H').map (·.1) = (xdo E T share o.o s H).map (·.1)) True
    | _, _, _ => False) ∧ again E T share l tr rs
def X (E : Env) (T : Tab) : Cc → Sl → Hp → (Ex → Sl → Hp → Prop) → Prop
  | .skip, s, H, Q => Q .norm s H
  | .reg share l, s, H, Q => XL E T share l s H fun s' H' => Q .norm s' H'
  | .drw share l rs, s, H, Q => XT E T share l s H [] fun tr s' H' => again E T share l tr rs ∧ Q .norm s' H'
  | .seq a b, s, H, Q => X E T a s H fun x s' H' => match x with | .norm => X E T b s' H' Q | x => Q x s' H'
  | .cond c a b, s, H, Q => (match ev s c with | .bool t => (t = true → X E T a s H Q) ∧ (t = false → X E T b s H Q) | _ => False)
  | .block id b, s, H, Q => X E T b s H fun x s' H' => match x with | .exit j => Q (if j = id then .norm else .exit j) s' H' | x => Q x s' H'
  | .loop lv drop b, s, H, Q => ∃ I : Nat → Sl → Hp → Prop, (∃ m, I m s H) ∧ ∀ m s1 H1, I m s1 H1 → X E T b (cutSl lv s1) (if drop = true then H1.take H.bs.length else H1) fun x s' H' => match x with | .norm => ∃ m', m' < m ∧ I m' s' H' | x => Q x s' H'
  | .exit id, s, H, Q => Q (.exit id) s H
  | .ret, s, H, Q => Q .ret s H
  | .other, _, _, _ => False
section
variable {E : Env} {T : Tab} {A : Ann} {nt : Nat}
theorem xloop_mono {f g : Sl → Hp → Option (Ex × Sl × Hp)} (hfg : ∀ s H r, f s H = some r → g s H = some r) {lv : List Nat} {drop : Bool} {n : Nat} : ∀ (k k' : Nat) (s : Sl) (H : Hp) (r : Ex × Sl × Hp), k ≤ k' → xloop f lv drop n k s H = some r → xloop g lv drop n k' s H = some r := by
  intro k
  induction k with
  | zero => intro k' s H r _ h; simp [xloop] at h
  | succ k ih =>
    intro k' s H r hk h
    obtain ⟨k'', rfl⟩ : ∃ k'', k' = k'' + 1 := ⟨k' - 1, by omega⟩
    simp only [xloop] at h ⊢
    cases hf : f (cutSl lv s) (if drop = true then H.take n else H) with
    | none => rw [hf] at h; cases h
    | some q =>
      rw [hfg _ _ _ hf]
      rw [hf] at h
      obtain ⟨x, s', H'⟩ := q
      cases x with
      | norm => exact ih k'' s' H' r (by omega) h
      | exit id => exact h
      | ret => exact h
theorem xcode_mono {k k' : Nat} (hk : k ≤ k') : ∀ (c : Code) (s : Sl) (H : Hp) (r : Ex × Sl × Hp), xcode E T A nt k c s H = some r → xcode E T A nt k' c s H = some r := by
  intro c
  induction c with
  | seq a b iha ihb =>
    intro s H r h
    simp only [xcode] at h ⊢
    cases ha : xcode E T A nt k a s H with
    | none => rw [ha] at h; cases h
    | some q =>
      rw [iha _ _ _ ha]; rw [ha] at h
      obtain ⟨x, s', H'⟩ := q
      cases x with
      | norm => exact ihb _ _ _ h
      | exit id => exact h
      | ret => exact h
  | cond c a b iha ihb =>
    intro s H r h
    simp only [xcode] at h ⊢
    split at h
    · exact iha _ _ _ h
    · exact ihb _ _ _ h
    · cases h
  | block id b ih =>
    intro s H r h
    simp only [xcode] at h ⊢
    cases hb : xcode E T A nt k b s H with
    | none => rw [hb] at h; cases h
    | some q => rw [ih _ _ _ hb]; rw [hb] at h; exact h
  | loop b ih =>
    intro s H r h
    simp only [xcode] at h ⊢
    exact xloop_mono ih k k' s H r hk h
  | skip => intro s H r h; simpa only [xcode] using h
  | label l => intro s H r h; simpa only [xcode] using h
  | region id ops d => intro s H r h; simpa only [xcode] using h
  | exit id => intro s H r h; simpa only [xcode] using h
  | ret => intro s H r h; simpa only [xcode] using h
  | _ => intro s H r h; simp only [xcode] at h; cases h
theorem cput_eq {d : Option Nat} (h : (match d with | some d => decide (d < nt) | none => true) = true) (v : AV) (s : Sl) : aput nt d v s = cput d v s := by
  cases d with
  | none => rfl
  | some d => simp only [decide_eq_true_eq] at h; simp [aput, cput, h]
theorem XG_elim {ops : Array Oper} {o : Oper} {s : Sl} {yes no : Prop} (hc : get s 1000000 = .bad) (h : XG (coOf ops o).g s yes no) : ∃ b, wantedA ops o s = some b ∧ (b = true → yes) ∧ (b = false → no) := by
  unfold XG coOf at h
  unfold wantedA
  cases hg : o.guard with
  | none => rw [hg] at h; exact ⟨true, rfl, fun _ => h, fun e => (Bool.noConfusion e)⟩
  | some p =>
    obtain ⟨j, want⟩ := p
    rw [hg] at h
    simp only at h ⊢
    cases hd : (ops[j]?).bind (·.dst) with
    | none => rw [hd] at h; simp only [Option.getD_none, hc] at h
    | some d =>
      rw [hd] at h
      simp only [Option.getD_some] at h ⊢
      cases hv : get s d with
      | bool b =>
        rw [hv] at h
        refine ⟨b == want, rfl, fun e => h.1 (by simpa using e), fun e => h.2 (by simpa using e)⟩
      | tup cs => rw [hv] at h; exact ⟨false, rfl, fun e => (Bool.noConfusion e), fun _ => h⟩
      | _ => rw [hv] at h; exact h.elim
theorem XL_sound {ops : Array Oper} (hops : okOps nt ops = true) (hnt : nt ≤ 1000000) {share : Bool} {R : Sl → Hp → Prop} : ∀ (l : List Oper), (∀ o ∈ l, o ∈ ops.toList) → ∀ s H, get s 1000000 = .bad → XL E T share (l.map (coOf ops)) s H R → ∃ s' H', xlist E T share nt ops l s H = some (s', H') ∧ R s' H' ∧ get s' 1000000 = .bad := by
  intro l
  induction l with
  | nil => intro _ s H hc h; exact ⟨s, H, rfl, h, hc⟩
  | cons o l ih =>
    intro hm s H hc h
    have ho : (match o.dst with | some d => decide (d < nt) | none => true) = true := by
      have := hm o (by simp)
      unfold okOps at hops
      rw [Array.all_eq_true'] at hops
      exact hops o (by simpa using this)
    have hcp : ∀ v, get (cput o.dst v s) 1000000 = .bad := by
      intro v
      cases hd : o.dst with
      | none => exact hc
      | some d =>
        have ho : d < nt := by simpa [hd] using ho
        simp only [cput, get]
        rw [if_neg (Nat.ne_of_gt (Nat.lt_of_lt_of_le ho hnt))]
        exact hc
    simp only [List.map_cons, XL] at h
    obtain ⟨b, hw, h1, h2⟩ := XG_elim hc h
    simp only [xlist, xop, hw]
    cases b with
    | true =>
      obtain ⟨r, hr, h3⟩ := opt_iff (h1 rfl)
      have : xdo E T share o.op s H = some r := hr
      rw [this]
      simp only [Option.map_some, cput_eq ho]
      exact ih (fun o' h' => hm o' (by simp [h'])) _ _ (hcp _) h3
    | false =>
      simp only [cput_eq ho]
      exact ih (fun o' h' => hm o' (by simp [h'])) _ _ (hcp _) (h2 rfl)
theorem XT_sound {ops : Array Oper} (hops : okOps nt ops = true) (hnt : nt ≤ 1000000) {share : Bool} {R : List (Sl × Hp) → Sl → Hp → Prop} : ∀ (l : List Oper), (∀ o ∈ l, o ∈ ops.toList) → ∀ s H pre, get s 1000000 = .bad → XT E T share (l.map (coOf ops)) s H pre R →
    ∃ tr s' H', xtr E T share nt ops l s H = some tr ∧ R (pre ++ tr) s' H' ∧ tr[l.length]? = some (s', H') ∧ get s' 1000000 = .bad := by
  intro l
  induction l with
  | nil => intro _ s H pre hc h; exact ⟨[(s, H)], s, H, rfl, h, rfl, hc⟩
  | cons o l ih =>
    intro hm s H pre hc h
    have ho : (match o.dst with | some d => decide (d < nt) | none => true) = true := by
      have := hm o (by simp)
      unfold okOps at hops
      rw [Array.all_eq_true'] at hops
      exact hops o (by simpa using this)
    have hcp : ∀ v, get (cput o.dst v s) 1000000 = .bad := by
      intro v
      cases hd : o.dst with
      | none => exact hc
      | some d =>
        have ho : d < nt := by simpa [hd] using ho
        simp only [cput, get]
        rw [if_neg (Nat.ne_of_gt (Nat.lt_of_lt_of_le ho hnt))]
        exact hc
    simp only [List.map_cons, XT] at h
    obtain ⟨b, hw, h1, h2⟩ := XG_elim hc h
    simp only [xtr, xop, hw]
    cases b with
    | true =>
      obtain ⟨r, hr, h3⟩ := opt_iff (h1 rfl)
      have : xdo E T share o.op s H = some r := hr
      rw [this]
      simp only [Option.map_some, cput_eq ho]
      obtain ⟨tr, s', H', e1, e2, e3, e4⟩ := ih (fun o' h' => hm o' (by simp [h'])) _ _ _ (hcp _) h3
      rw [e1]
      exact ⟨_, s', H', rfl, by simpa using e2, by simpa using e3, e4⟩
    | false =>
      simp only [cput_eq ho]
      obtain ⟨tr, s', H', e1, e2, e3, e4⟩ := ih (fun o' h' => hm o' (by simp [h'])) _ _ _ (hcp _) (h2 rfl)
      rw [e1]
      exact ⟨_, s', H', rfl, by simpa using e2, by simpa using e3, e4⟩
theorem memless_any {o : Oper} (h : memless o = true) (share : Bool) (s : Sl) (H H' : Hp) : (xdo E T share o.op s H).map (·.1) = (xdo E T share o.op s H').map (·.1) := by
  have mm : ∀ {α : Type} (x : Option α) (f : α → AV) (H H' : Hp), (x.map fun v => (f v, H)).map (·.1) = (x.map fun v => (f v, H')).map (·.1) := by
    intro α x f H H'; cases x <;> rfl
  have bm : ∀ {α : Type} (x : Option α) (f g : α → Option (AV × Hp)), (∀ a, (f a).map (·.1) = (g a).map (·.1)) → (x.bind f).map (·.1) = (x.bind g).map (·.1) := by
    intro α x f g hfg; cases x with
    | none => rfl
    | some a => exact hfg a
  obtain ⟨dst, op, ty, pos, aft, gd⟩ := o
  simp only at h ⊢
  unfold memless at h
  unfold xdo
  cases op <;> simp only at h ⊢ <;> first
    | (cases h; done)
    | skip
  case call c =>
    obtain ⟨cal, as, tys⟩ := c
    cases cal with
    | builtin b =>
      cases b <;> simp only at h ⊢ <;> first
        | (cases h; done)
        | skip
      all_goals (simp only [aop]; repeat' split) <;> first | rfl | contradiction | exact mm _ _ _ _ | (cases ‹Tab.d T _ = _›) | skip
    | _ => cases h
  all_goals (simp only [aop]; repeat' split) <;> first | rfl | exact mm _ _ _ _ | exact bm _ _ _ (fun _ => rfl) | exact bm _ _ _ (fun _ => mm _ _ _ _) | exact bm _ _ _ (fun _ => by split <;> rfl) | exact bm _ _ _ (fun _ => by split <;> first | rfl | exact mm _ _ _ _) | exact bm _ _ _ (fun _ => bm _ _ _ fun _ => by split <;> rfl) | exact bm _ _ _ (fun _ => bm _ _ _ fun _ => by split <;> first | rfl | exact mm _ _ _ _) | skip
theorem again_sound {ops : Array Oper} {share : Bool} {tr : List (Sl × Hp)} (htr : ∀ (q : Nat) (s : Sl) (H : Hp), tr[q]? = some (s, H) → get s 1000000 = .bad) (hlen : tr.length = ops.size + 1) : ∀ (rs : List (Nat × Nat)), (∀ p ∈ rs, p.1 < ops.size ∧ p.2 ≤ ops.size) →
    again E T share (ops.toList.map (coOf ops)) tr (rs.filter fun p => !memlessAt ops p.1) → Restab E T share ops tr rs := by
  intro rs
  induction rs with
  | nil => intro _ _; trivial
  | cons p rs ih =>
    intro hb h
    obtain ⟨q, k⟩ := p
    have hq := hb (q, k) (by simp)
    simp only at hq
    have hqt : q < tr.length := by omega
    have hkt : k < tr.length := by omega
    have ho : ops[q]? = some ops[q] := Array.getElem?_eq_getElem hq.1
    have e1 : tr[q]? = some tr[q] := List.getElem?_eq_getElem hqt
    have e2 : tr[k]? = some tr[k] := List.getElem?_eq_getElem hkt
    refine ⟨?_, ?_⟩
    · rw [ho, e1, e2]
      simp only
      have hc : get tr[q].1 1000000 = .bad := htr q tr[q].1 tr[q].2 (by rw [e1])
      simp only [xval]
      cases hm : memlessAt ops q with
      | true =>
        simp only [memlessAt, ho] at hm
        cases hw : wantedA ops ops[q] tr[q].1 with
        | none => rfl
        | some b => cases b with
          | false => rfl
          | true => exact memless_any hm _ _ _ _
      | false =>
        have hf : ((q, k) :: rs).filter (fun p => !memlessAt ops p.1) = (q, k) :: rs.filter fun p => !memlessAt ops p.1 := by simp [List.filter_cons, hm]
        rw [hf] at h
        have h1 := h.1
        rw [List.getElem?_map, show ops.toList[q]? = some ops[q] by simp [ho], e1, e2] at h1
        simp only [Option.map_some] at h1
        obtain ⟨b, hw, g1, g2⟩ := XG_elim hc h1
        rw [hw]
        cases b with
        | false => rfl
        | true => exact g1 rfl
    · refine ih (fun p hp => hb p (by simp [hp])) ?_
      cases hm : memlessAt ops q with
      | true => simpa [List.filter_cons, hm] using h
      | false =>
        have hf : ((q, k) :: rs).filter (fun p => !memlessAt ops p.1) = (q, k) :: rs.filter fun p => !memlessAt ops p.1 := by simp [List.filter_cons, hm]
        rw [hf] at h
        exact h.2
/-- The recs of each drawing region point into it. -/
def okRecs (A : Ann) : Code → Bool
  | .region id ops draw => !draw || (A.recs id).all fun p => decide (p.1 < ops.size ∧ p.2 ≤ ops.size)
  | .seq a b => okRecs A a && okRecs A b
  | .cond _ a b => okRecs A a && okRecs A b
  | .block _ b => okRecs A b
  | .loop b => okRecs A b
  | _ => true
theorem xtr_all {ops : Array Oper} (hops : okOps nt ops = true) (hnt : nt ≤ 1000000) {share : Bool} : ∀ (l : List Oper), (∀ o ∈ l, o ∈ ops.toList) → ∀ s H tr, get s 1000000 = .bad → xtr E T share nt ops l s H = some tr →
    tr.length = l.length + 1 ∧ ∀ (q : Nat) (s : Sl) (H : Hp), tr[q]? = some (s, H) → get s 1000000 = .bad := by
  intro l
  induction l with
  | nil =>
    intro _ s H tr hc h
    simp only [xtr, Option.some.injEq] at h
    subst h
    refine ⟨rfl, fun q s' H' hq => ?_⟩
    cases q with
    | zero => simp at hq; rw [← hq.1]; exact hc
    | succ q => simp at hq
  | cons o l ih =>
    intro hm s H tr hc h
    have ho : (match o.dst with | some d => decide (d < nt) | none => true) = true := by
      have := hm o (by simp)
      unfold okOps at hops
      rw [Array.all_eq_true'] at hops
      exact hops o (by simpa using this)
    have hcp : ∀ v, get (aput nt o.dst v s) 1000000 = .bad := by
      intro v
      cases hd : o.dst with
      | none => exact hc
      | some d =>
        have ho : d < nt := by simpa [hd] using ho
        simp only [aput, if_pos ho, get]
        rw [if_neg (Nat.ne_of_gt (Nat.lt_of_lt_of_le ho hnt))]
        exact hc
    simp only [xtr] at h
    split at h
    · rename_i s' H' hx
      obtain ⟨tr', h1, rfl⟩ := Option.map_eq_some_iff.1 h
      rw [xop_val] at hx
      obtain ⟨r, _, hr⟩ := Option.map_eq_some_iff.1 hx
      cases hr
      obtain ⟨g1, g2⟩ := ih (fun o' h' => hm o' (by simp [h'])) _ _ tr' (hcp _) h1
      refine ⟨by simp [g1], fun q s' H' hq => ?_⟩
      cases q with
      | zero => simp at hq; rw [← hq.1]; exact hc
      | succ q => exact g2 q s' H' (by simpa using hq)
    · cases h
theorem X_sound (hnt : nt ≤ 1000000) : ∀ (c : Code), okSlots nt c = true → okRecs A c = true → ∀ (s : Sl) (H : Hp) (Q : Ex → Sl → Hp → Prop), get s 1000000 = .bad → X E T (shortC A c) s H Q →
    ∃ k x s' H', xcode E T A nt k c s H = some (x, s', H') ∧ Q x s' H' ∧ get s' 1000000 = .bad := by
  intro c
  induction c with
  | skip => intro _ _ s H Q hc h; exact ⟨0, _, _, _, by simp only [xcode], h, hc⟩
  | label l => intro _ _ s H Q hc h; exact ⟨0, _, _, _, by simp only [xcode], h, hc⟩
  | exit id => intro _ _ s H Q hc h; exact ⟨0, _, _, _, by simp only [xcode], h, hc⟩
  | ret => intro _ _ s H Q hc h; exact ⟨0, _, _, _, by simp only [xcode], h, hc⟩
  | region id ops draw =>
    intro hs hr s H Q hc h
    simp only [okSlots] at hs
    refine ⟨0, .norm, ?_⟩
    simp only [xcode]
    -- the text's order
    have key : draw = false → X E T (.reg (A.share id) (ops.toList.map (coOf ops))) s H Q → ∃ s' H', xlist E T (A.share id) nt ops ops.toList s H = some (s', H') ∧ Q .norm s' H' ∧ get s' 1000000 = .bad := by
      intro _ h
      exact XL_sound hs hnt _ (fun _ h => h) _ _ hc h
    cases draw with
    | false =>
      simp only [shortC, Bool.false_eq_true, if_false] at h
      obtain ⟨s', H', h1, h2, h3⟩ := key rfl h
      exact ⟨s', H', by simp [h1], h2, h3⟩
    | true =>
      simp only [okRecs, Bool.not_true, Bool.false_or, List.all_eq_true, decide_eq_true_eq] at hr
      simp only [shortC, if_true] at h ⊢
      have fin : ∀ tr s' H', xtr E T (A.share id) nt ops ops.toList s H = some tr → again E T (A.share id) (ops.toList.map (coOf ops)) tr ((A.recs id).filter fun p => !memlessAt ops p.1) → tr[ops.toList.length]? = some (s', H') → xdraw E T (A.share id) nt ops (A.recs id) s H = some (s', H') := by
        intro tr s' H' e1 e2 e3
        obtain ⟨g1, g2⟩ := xtr_all hs hnt _ (fun _ h => h) _ _ _ hc e1
        unfold xdraw
        rw [e1]
        simp only
        rw [if_pos (again_sound g2 (by simpa using g1) _ hr e2)]
        simpa using e3
      split at h
      · rename_i he
        -- all rechecks are void
        have h' : XT E T (A.share id) (ops.toList.map (coOf ops)) s H [] fun tr s' H' => Q .norm s' H' := by
          have : ∀ (l : List Co) (s : Sl) (H : Hp) (pre : List (Sl × Hp)), XL E T (A.share id) l s H (fun s' H' => Q .norm s' H') → XT E T (A.share id) l s H pre fun tr s' H' => Q .norm s' H' := by
            intro l
            induction l with
            | nil => intro s H pre h; exact h
            | cons o l ih =>
              intro s H pre h
              simp only [XL, XT] at h ⊢
              have mono : ∀ {a b c d : Prop} (g : Option (Nat × Bool)), (a → c) → (b → d) → XG g s a b → XG g s c d := by
                intro a b c d g h1 h2 h
                unfold XG at h ⊢
                split at h
                · exact h1 h
                · split at h
                  · exact ⟨fun e => h1 (h.1 e), fun e => h2 (h.2 e)⟩
                  · exact h2 h
                  · exact h.elim
              refine mono _ (fun h => ?_) (ih _ _ _) h
              obtain ⟨r, e1, e2⟩ := opt_iff h
              exact opt_of e1 (ih _ _ _ e2)
          exact this _ _ _ _ h
        obtain ⟨tr, s', H', h1, h2, h3, h4⟩ := XT_sound hs hnt _ (fun _ h => h) _ _ _ hc h'
        exact ⟨s', H', by rw [fin tr s' H' h1 (by rw [he]; trivial) h3]; rfl, h2, h4⟩
      · rename_i p l he
        obtain ⟨tr, s', H', h1, h2, h3, h4⟩ := XT_sound hs hnt _ (fun _ h => h) _ _ _ hc h
        exact ⟨s', H', by rw [fin tr s' H' h1 (by rw [he]; exact h2.1) h3]; rfl, h2.2, h4⟩
  | seq a b iha ihb =>
    intro hs hr s H Q hc h
    simp only [okSlots, okRecs, Bool.and_eq_true] at hs hr
    obtain ⟨k1, x, s1, H1, h1, h2, h3⟩ := iha hs.1 hr.1 s H _ hc h
    cases x with
    | norm =>
      obtain ⟨k2, x2, s2, H2, g1, g2, g3⟩ := ihb hs.2 hr.2 s1 H1 _ h3 h2
      refine ⟨max k1 k2, x2, s2, H2, ?_, g2, g3⟩
      simp only [xcode, xcode_mono (Nat.le_max_left k1 k2) _ _ _ _ h1]
      exact xcode_mono (Nat.le_max_right k1 k2) _ _ _ _ g1
    | exit id => exact ⟨k1, _, s1, H1, by simp only [xcode, h1], h2, h3⟩
    | ret => exact ⟨k1, _, s1, H1, by simp only [xcode, h1], h2, h3⟩
  | cond c a b iha ihb =>
    intro hs hr s H Q hc h
    simp only [okSlots, okRecs, Bool.and_eq_true] at hs hr
    simp only [shortC, X] at h
    split at h
    · rename_i t ht
      cases t with
      | true =>
        obtain ⟨k, x, s1, H1, h1, h2⟩ := iha hs.1 hr.1 s H _ hc (h.1 rfl)
        exact ⟨k, x, s1, H1, by simp only [xcode, ht]; exact h1, h2⟩
      | false =>
        obtain ⟨k, x, s1, H1, h1, h2⟩ := ihb hs.2 hr.2 s H _ hc (h.2 rfl)
        exact ⟨k, x, s1, H1, by simp only [xcode, ht]; exact h1, h2⟩
    · exact h.elim
  | block id b ih =>
    intro hs hr s H Q hc h
    simp only [okSlots, okRecs] at hs hr
    obtain ⟨k, x, s1, H1, h1, h2, h3⟩ := ih hs hr s H _ hc h
    cases x with
    | norm => exact ⟨k, _, s1, H1, by simp only [xcode, h1], h2, h3⟩
    | exit j => exact ⟨k, _, s1, H1, by simp only [xcode, h1], h2, h3⟩
    | ret => exact ⟨k, _, s1, H1, by simp only [xcode, h1], h2, h3⟩
  | loop b ih =>
    intro hs hr s H Q hc h
    simp only [okSlots, okRecs] at hs hr
    simp only [shortC, X] at h
    obtain ⟨I, ⟨m, hm⟩, hI⟩ := h
    have hcut : ∀ s : Sl, get s 1000000 = .bad → get (cutSl (A.live (firstReg b)) s) 1000000 = .bad := by
      intro s hs
      unfold cutSl
      induction A.live (firstReg b) with
      | nil => rfl
      | cons j lv ih2 =>
        simp only [List.map_cons, get]
        by_cases hj : 1000000 = j
        · rw [if_pos hj, ← hj]; exact hs
        · rw [if_neg hj]; exact ih2
    have key : ∀ m s1 H1, get s1 1000000 = .bad → I m s1 H1 → ∃ k x s' H', xloop (xcode E T A nt k b) (A.live (firstReg b)) (A.drop (firstReg b)) H.bs.length k s1 H1 = some (x, s', H') ∧ Q x s' H' ∧ get s' 1000000 = .bad := by
      intro m
      induction m using Nat.strongRecOn with
      | _ m ihm =>
        intro s1 H1 hc1 h1
        obtain ⟨k, x, s2, H2, g1, g2, g3⟩ := ih hs hr _ _ _ (hcut s1 hc1) (hI m s1 H1 h1)
        cases x with
        | norm =>
          obtain ⟨m', hm', hi'⟩ := g2
          obtain ⟨k', x', s', H', e1, e2, e3⟩ := ihm m' hm' s2 H2 g3 hi'
          refine ⟨max k k' + 1, x', s', H', ?_, e2, e3⟩
          simp only [xloop]
          rw [xcode_mono (show k ≤ max k k' + 1 by omega) _ _ _ _ g1]
          exact xloop_mono (fun s H r => xcode_mono (show k' ≤ max k k' + 1 by omega) _ _ _ _) k' _ _ _ _ (by omega) e1
        | exit id =>
          refine ⟨k + 1, _, s2, H2, ?_, g2, g3⟩
          simp only [xloop]
          rw [xcode_mono (show k ≤ k + 1 by omega) _ _ _ _ g1]
        | ret =>
          refine ⟨k + 1, _, s2, H2, ?_, g2, g3⟩
          simp only [xloop]
          rw [xcode_mono (show k ≤ k + 1 by omega) _ _ _ _ g1]
    obtain ⟨k, x, s', H', e1, e2, e3⟩ := key m s H hc hm
    exact ⟨k, x, s', H', by simp only [xcode]; exact e1, e2, e3⟩
  | _ => intro _ _ s H Q hc h; exact h.elim
end
/- What a function hands back: its new blocks are named anew, the rest that it made is let go; functions are sound. -/
def pos : List (Nat × Nat) → Nat → Nat → Nat → Option Nat
  | [], _, _, _ => none
  | p :: l, i, b, ver => if b = p.1 ∧ ver = p.2 then some i else pos l (i + 1) b ver
/-- Where a block is in the end. -/
def relR (L c : Nat) (js : List (Nat × Nat)) (b ver : Nat) : Option (Nat × Nat) :=
  if ver < c then some (b, ver) else (pos js 0 b ver).map fun i => (L + i, c + i)
mutual
def AV.rel (L c : Nat) (js : List (Nat × Nat)) : AV → AV
  | .sl b ver off n es full => (match relR L c js b ver with | some p => .sl p.1 p.2 off n es full | none => .bad)
  | .ptr b ver off => (match relR L c js b ver with | some p => .ptr p.1 p.2 off | none => .bad)
  | .agg cs => .agg (rels L c js cs)
  | .tup vs => .tup (rels L c js vs)
  | .func g caps => .func g (rels L c js caps)
  | .int k n => .int k n
  | .bool b => .bool b
  | .str s => .str s
  | .nilS => .nilS
  | .mtS => .mtS
  | .nilP => .nilP
  | .nilF => .nilF
  | .nilI => .nilI
  | .bad => .bad
def rels (L c : Nat) (js : List (Nat × Nat)) : List AV → List AV
  | [] => []
  | a :: l => a.rel L c js :: rels L c js l
end
theorem pos_some {b ver : Nat} : ∀ (js : List (Nat × Nat)) (i k : Nat), pos js i b ver = some k → i ≤ k ∧ js[k - i]? = some (b, ver) := by
  intro js
  induction js with
  | nil => intro i k h; cases h
  | cons p l ih =>
    intro i k h
    simp only [pos] at h
    split at h
    · rename_i hp
      cases h
      exact ⟨Nat.le_refl _, by simp [hp.1, hp.2]⟩
    · obtain ⟨h1, h2⟩ := ih _ _ h
      refine ⟨by omega, ?_⟩
      rw [show k - i = (k - (i + 1)) + 1 by omega]
      simpa using h2
theorem rels_eq (L c : Nat) (js : List (Nat × Nat)) (l : List AV) : rels L c js l = l.map (AV.rel L c js) := by
  induction l with
  | nil => rfl
  | cons a l ih => simp [rels, ih]
section
variable {L c : Nat} {js : List (Nat × Nat)} {G G2 G' : Cx}
mutual
theorem RV.rel (hm : ∀ b ver p, relR L c js b ver = some p → ver < G2.c → G'.mu p.1 p.2 = G2.mu b ver ∧ p.2 < G'.c) (hs : G'.sz = G2.sz) : ∀ {a v}, RV G2 a v → RV G' (a.rel L c js) v
  | _, _, .bad v => .bad v
  | _, _, .int k n => .int k n
  | _, _, .bool b => .bool b
  | _, _, .str s => .str s
  | _, _, .nilS => .nilS
  | _, _, .mt2 x => .mt2 x
  | _, _, .nilP => .nilP
  | _, _, .nilF => .nilF
  | _, _, .nilI => .nilI
  | _, _, .sl b ver off n es full B o A cap h1 h2 h3 h4 h5 => by
    simp only [AV.rel]
    cases hr : relR L c js b ver with
    | none => exact .bad _
    | some p =>
      obtain ⟨e1, e2⟩ := hm b ver p hr h1
      exact .sl p.1 p.2 off n es full B o A cap e2 (e1.trans h2) h3 h4 (by rw [hs]; exact h5)
  | _, _, .ptr b ver off B o h1 h2 => by
    simp only [AV.rel]
    cases hr : relR L c js b ver with
    | none => exact .bad _
    | some p =>
      obtain ⟨e1, e2⟩ := hm b ver p hr h1
      exact .ptr p.1 p.2 off B o e2 (e1.trans h2)
  | _, _, .agg cs vs h => .agg _ vs (RVs.rel hm hs h)
  | _, _, .tup cs vs h => .tup _ vs (RVs.rel hm hs h)
  | _, _, .func g cs vs h => .func g _ vs (RVs.rel hm hs h)
theorem RVs.rel (hm : ∀ b ver p, relR L c js b ver = some p → ver < G2.c → G'.mu p.1 p.2 = G2.mu b ver ∧ p.2 < G'.c) (hs : G'.sz = G2.sz) : ∀ {a v}, RVs G2 a v → RVs G' (rels L c js a) v
  | _, _, .nil => .nil
  | _, _, .cons a v as vs h1 h2 => .cons _ _ _ _ (RV.rel hm hs h1) (RVs.rel hm hs h2)
end
mutual
theorem RV.rel_old (hc : G.c ≤ c) : ∀ {a v}, RV G a v → a.rel L c js = a
  | _, _, .bad v => rfl
  | _, _, .int k n => rfl
  | _, _, .bool b => rfl
  | _, _, .str s => rfl
  | _, _, .nilS => rfl
  | _, _, .mt2 x => rfl
  | _, _, .nilP => rfl
  | _, _, .nilF => rfl
  | _, _, .nilI => rfl
  | _, _, .sl b ver off n es full B o A cap h1 h2 h3 h4 h5 => by
    simp only [AV.rel, relR]; rw [if_pos (Nat.lt_of_lt_of_le h1 hc)]
  | _, _, .ptr b ver off B o h1 h2 => by
    simp only [AV.rel, relR]; rw [if_pos (Nat.lt_of_lt_of_le h1 hc)]
  | _, _, .agg cs vs h => by simp only [AV.rel]; rw [RVs.rel_old hc h]
  | _, _, .tup cs vs h => by simp only [AV.rel]; rw [RVs.rel_old hc h]
  | _, _, .func g cs vs h => by simp only [AV.rel]; rw [RVs.rel_old hc h]
theorem RVs.rel_old (hc : G.c ≤ c) : ∀ {a v}, RVs G a v → rels L c js a = a
  | _, _, .nil => rfl
  | _, _, .cons a v as vs h1 h2 => by simp only [rels]; rw [RV.rel_old hc h1, RVs.rel_old hc h2]
end
end
theorem rel_one {L c : Nat} {js : List (Nat × Nat)} (a : AV) (h : a.one = true) (hb : a.rel L c js ≠ .bad) : (a.rel L c js).one = true := by
  cases a <;> simp only [AV.rel] at hb ⊢ <;> first
    | exact h
    | (split at hb <;> first | rfl | exact absurd rfl hb)
    | rfl
/-- Each block is of a version that was. -/
def Wf (H : Hp) : Prop := ∀ (b : Nat) (k : Blk), H.bs[b]? = some k → k.ver < H.c
/-- What was there is there. -/
def Pre (H H2 : Hp) : Prop := ∀ (b : Nat) (k : Blk), H.bs[b]? = some k → H2.bs[b]? = some k
/-- The blocks js are what is new; what was there stands as it is told. -/
structure Can (H H2 H' : Hp) (r2 r : AV) (js : List (Nat × Nat)) : Prop where
  c : H'.c = H.c + js.length
  len : H'.bs.length = H.bs.length + js.length
  old : ∀ b, b < H.bs.length → ∃ k, H2.bs[b]? = some k ∧ k.ver < H.c ∧ H'.bs[b]? = some k ∧ (H.bs[b]? = some k ∨ rels H.bs.length H.c js k.cells = k.cells)
  new : ∀ i j ver, js[i]? = some (j, ver) → H.c ≤ ver ∧ ∃ k, H2.bs[j]? = some k ∧ k.ver = ver ∧ H'.bs[H.bs.length + i]? = some ⟨H.c + i, rels H.bs.length H.c js k.cells, k.tail, k.solo⟩
  nodup : js.Nodup
  good : ∀ i k, H'.bs[H.bs.length + i]? = some k → .bad ∉ k.cells
  r : r2.rel H.bs.length H.c js = r
theorem Can.st {H H2 H' : Hp} {r2 r : AV} {js : List (Nat × Nat)} (h : Can H H2 H' r2 r js) {B0 : Nat} {w0 : World} {G G2 : Cx} {w w' : World} (h0 : St B0 w0 G H w) (h2 : St B0 w0 G2 H2 w') (hl : Le G G2) {v : Value} (hr : RV G2 r2 v) :
    ∃ G', Le G G' ∧ St B0 w0 G' H' w' ∧ RV G' r v := by
  let mu' : Nat → Nat → Option (Nat × Nat) := fun b v => if v < H.c then G.mu b v else match js[v - H.c]? with
    | some p => if b = H.bs.length + (v - H.c) then G2.mu p.1 p.2 else none
    | none => none
  let G' : Cx := ⟨mu', G2.sz, H.c + js.length⟩
  have hGc : G.c = H.c := h0.c
  have hle : Le G G' := by
    refine ⟨by show G.c ≤ H.c + js.length; omega, fun b v hv => ?_, fun b v B o hv hm => hl.sz b v B o hv hm⟩
    show mu' b v = _
    simp only [mu']; rw [if_pos (by omega)]
  have hnew : ∀ i j ver, js[i]? = some (j, ver) → G'.mu (H.bs.length + i) (H.c + i) = G2.mu j ver := by
    intro i j ver hi
    show mu' _ _ = _
    simp only [mu']
    rw [if_neg (by omega), show H.c + i - H.c = i by omega, hi]
    simp
  have hm : ∀ b ver p, relR H.bs.length H.c js b ver = some p → ver < G2.c → G'.mu p.1 p.2 = G2.mu b ver ∧ p.2 < G'.c := by
    intro b ver p hp _
    unfold relR at hp
    split at hp
    · rename_i hv
      cases hp
      refine ⟨?_, by show ver < H.c + js.length; omega⟩
      rw [hle.mu b ver (by omega), hl.mu b ver (by omega)]
    · obtain ⟨i, hi, rfl⟩ := Option.map_eq_some_iff.1 hp
      obtain ⟨_, h3⟩ := pos_some js 0 i hi
      rw [Nat.sub_zero] at h3
      refine ⟨hnew i b ver h3, ?_⟩
      have := (List.getElem?_eq_some_iff.1 h3).1
      show H.c + i < H.c + js.length
      omega
  have hsz : G'.sz = G2.sz := rfl
  -- what a block of the end is
  have hcase : ∀ b k, H'.bs[b]? = some k → (b < H.bs.length ∧ k.ver < H.c ∧ H2.bs[b]? = some k ∧ (H.bs[b]? = some k ∨ rels H.bs.length H.c js k.cells = k.cells) ∧ G'.mu b k.ver = G2.mu b k.ver) ∨
      (∃ i j ver k2, b = H.bs.length + i ∧ js[i]? = some (j, ver) ∧ H.c ≤ ver ∧ H2.bs[j]? = some k2 ∧ k2.ver = ver ∧ k = ⟨H.c + i, rels H.bs.length H.c js k2.cells, k2.tail, k2.solo⟩ ∧ G'.mu b k.ver = G2.mu j k2.ver) := by
    intro b k hk
    by_cases hb : b < H.bs.length
    · obtain ⟨k', e1, e2, e3, e4⟩ := h.old b hb
      rw [e3] at hk; cases hk
      refine .inl ⟨hb, e2, e1, e4, ?_⟩
      rw [hle.mu b _ (by omega), hl.mu b _ (by omega)]
    · have hlt := (List.getElem?_eq_some_iff.1 hk).1
      rw [h.len] at hlt
      obtain ⟨i, rfl⟩ : ∃ i, b = H.bs.length + i := ⟨b - H.bs.length, by omega⟩
      have hi : i < js.length := by omega
      obtain ⟨⟨j, ver⟩, hj⟩ : ∃ p, js[i]? = some p := ⟨_, List.getElem?_eq_getElem hi⟩
      obtain ⟨e1, k2, e2, e3, e4⟩ := h.new i j ver hj
      rw [e4] at hk; cases hk
      exact .inr ⟨i, j, ver, k2, rfl, hj, e1, e2, e3, rfl, by rw [e3]; exact hnew i j ver hj⟩
  -- its place among what was made
  have hsrc : ∀ b k, H'.bs[b]? = some k → ∃ j k2, H2.bs[j]? = some k2 ∧ G'.mu b k.ver = G2.mu j k2.ver ∧ k.tail = k2.tail ∧ k.solo = k2.solo ∧ k.cells.length = k2.cells.length ∧ (j = b ∧ k2.ver < H.c ∨ ∃ i, b = H.bs.length + i ∧ js[i]? = some (j, k2.ver) ∧ H.c ≤ k2.ver) := by
    intro b k hk
    rcases hcase b k hk with ⟨e1, e2, e3, _, e5⟩ | ⟨i, j, ver, k2, e1, e2, e3, e4, e5, e6, e7⟩
    · exact ⟨b, k, e3, e5, rfl, rfl, rfl, .inl ⟨rfl, e2⟩⟩
    · refine ⟨j, k2, e4, e7, by rw [e6], by rw [e6], by rw [e6, rels_eq]; simp, .inr ⟨i, e1, by rw [e5]; exact e2, by omega⟩⟩
  refine ⟨G', hle, ?_, h.r ▸ RV.rel hm hsz hr⟩
  refine ⟨h2.below, h2.base, by show H.c + js.length = H'.c; rw [h.c], ?_, ?_, ?_, ?_⟩
  · intro b k hk
    rcases hcase b k hk with ⟨e1, e2, e3, e4, e5⟩ | ⟨i, j, ver, k2, e1, e2, e3, e4, e5, e6, e7⟩
    · obtain ⟨g1, B, o, g2, ⟨cs, e, fr, g3, g4, g5, g6⟩, g7⟩ := h2.blk b k e3
      refine ⟨by rw [h.c]; omega, B, o, by rw [e5]; exact g2, ⟨cs, e, fr, g3, g4, ?_, g6⟩, g7⟩
      have hh := RVs.rel (L := H.bs.length) (c := H.c) (js := js) hm hsz g5
      rcases e4 with e4 | e4
      · obtain ⟨_, B', o', _, ⟨cs', _, _, _, _, g8, _⟩, _⟩ := h0.blk b k e4
        rwa [RVs.rel_old (by omega) g8] at hh
      · rwa [e4] at hh
    · obtain ⟨g1, B, o, g2, ⟨cs, e, fr, g3, g4, g5, g6⟩, g7⟩ := h2.blk j k2 e4
      have hi := (List.getElem?_eq_some_iff.1 e2).1
      refine ⟨by rw [h.c, e6]; show H.c + i < _; omega, B, o, by rw [e7]; exact g2, ⟨cs, e, fr, g3, ?_, ?_, ?_⟩, ?_⟩
      · rw [e6, rels_eq]; simpa using g4
      · rw [e6]
        have hh := RVs.rel (L := H.bs.length) (c := H.c) (js := js) hm hsz g5
        rw [show (rels H.bs.length H.c js k2.cells).length = k2.cells.length by rw [rels_eq]; simp]
        exact hh
      · rw [e6]; exact g6
      · rw [e6]; exact g7
  · intro b k b' k' B o B' o' hne hk hk' hmu hmu'
    obtain ⟨j, k2, a1, a2, a3, a4, a5, a6⟩ := hsrc b k hk
    obtain ⟨j', k2', c1, c2, c3, c4, c5, c6⟩ := hsrc b' k' hk'
    have hjj : j ≠ j' := by
      intro e
      subst e
      rw [a1] at c1; cases c1
      rcases a6 with ⟨rfl, a6⟩ | ⟨i, rfl, a6, a7⟩ <;> rcases c6 with ⟨rfl, c6⟩ | ⟨i', rfl, c6, c7⟩
      · exact hne rfl
      · omega
      · omega
      · have : i = i' := by
          have hi := (List.getElem?_eq_some_iff.1 a6).1
          exact (List.getElem?_inj hi h.nodup).1 (a6.trans c6.symm)
        exact hne (by rw [this])
    have := h2.apart j k2 j' k2' B o B' o' hjj a1 c1 (a2 ▸ hmu) (c2 ▸ hmu')
    rw [a3, a4, a5, c3, c5]
    exact this
  · intro b k hk
    rcases hcase b k hk with ⟨e1, e2, e3, _, e5⟩ | ⟨i, j, ver, k2, e1, e2, e3, e4, e5, e6, e7⟩
    · exact h2.ones b k e3
    · have hg := h.good i k (e1 ▸ hk)
      have ho := h2.ones j k2 e4
      rw [e6] at hg ⊢
      simp only [rels_eq] at hg ⊢
      rw [List.all_eq_true] at ho ⊢
      intro x hx
      obtain ⟨y, hy, rfl⟩ := List.mem_map.1 hx
      exact rel_one y (ho y hy) fun e => hg (e ▸ hx)
  · intro b v B o hv hmu
    by_cases hvc : v < H.c
    · have e1 : G'.mu b v = G2.mu b v := by rw [hle.mu b v (by omega), hl.mu b v (by omega)]
      exact h2.maps b v B o (Nat.lt_of_lt_of_le (by omega) hl.c) (e1 ▸ hmu)
    · have : mu' b v = some (B, o) := hmu
      simp only [mu'] at this
      rw [if_neg hvc] at this
      split at this
      · rename_i p hp
        split at this
        · obtain ⟨j, ver⟩ := p
          obtain ⟨g1, k2, g2, g3, _⟩ := h.new _ j ver hp
          have hvl := (h2.blk j k2 g2).1
          exact h2.maps j ver B o (by rw [h2.c, ← g3]; exact hvl) this
        · cases this
      · cases this
theorem Pre.refl (H : Hp) : Pre H H := fun _ _ h => h
theorem Pre.trans {A B C : Hp} (h : Pre A B) (k : Pre B C) : Pre A C := fun b x hx => k b x (h b x hx)
theorem Pre.new {H H2 : Hp} (h : Pre H H2) (cells : List AV) : Pre H (H2.new cells) := by
  intro b k hk
  have := h b k hk
  have hb := (List.getElem?_eq_some_iff.1 this).1
  show (H2.bs ++ _)[b]? = some k
  rw [List.getElem?_append_left hb, this]
theorem Pre.at {H H2 : Hp} (h : Pre H H2) {b ver : Nat} {k : Blk} (hk : H.at b ver = some k) : H2.at b ver = some k := by
  obtain ⟨h1, h2⟩ := Hp.at_some hk
  unfold Hp.at
  rw [h b k h1]
  simp [h2]
theorem Can.old_pre {H H2 : Hp} (hw : Wf H) (hp : Pre H H2) (rest : List Blk) : ∀ b, b < H.bs.length → ∃ k, H2.bs[b]? = some k ∧ k.ver < H.c ∧ (H.bs ++ rest)[b]? = some k ∧ (H.bs[b]? = some k ∨ rels H.bs.length H.c [] k.cells = k.cells) := by
  intro b hb
  have h1 : H.bs[b]? = some H.bs[b] := List.getElem?_eq_getElem hb
  exact ⟨H.bs[b], hp b _ h1, hw b _ h1, by rw [List.getElem?_append_left hb, h1], .inl h1⟩
/-- Nothing new is handed back. -/
theorem Can.pure {H H2 : Hp} {r2 r : AV} (hw : Wf H) (hp : Pre H H2) (hr : r2.rel H.bs.length H.c [] = r) : Can H H2 H r2 r [] := by
  refine ⟨rfl, by simp, fun b hb => ?_, fun i j ver h => by simp at h, List.nodup_nil, fun i k hk => ?_, hr⟩
  · obtain ⟨k, h1, h2, h3, h4⟩ := Can.old_pre hw hp [] b hb
    exact ⟨k, h1, h2, by simpa using h3, h4⟩
  · rw [List.getElem?_eq_none (by omega)] at hk; cases hk
/-- A value without an address. -/
def flat : AV → Bool
  | .sl .. | .ptr .. | .agg _ | .tup _ | .func .. | .bad => false
  | _ => true
theorem flat_rel {L c js} {a : AV} (h : flat a = true) : a.rel L c js = a := by cases a <;> first | rfl | cases h
theorem flats_rel {L c js} {l : List AV} (h : l.all flat = true) : rels L c js l = l := by
  rw [rels_eq]
  induction l with
  | nil => rfl
  | cons a l ih => simp only [List.all_cons, Bool.and_eq_true] at h; simp [flat_rel h.1, ih h.2]
theorem flats_bad {l : List AV} (h : l.all flat = true) : AV.bad ∉ l := by
  intro hm
  have := List.all_eq_true.1 h _ hm
  cases this
/-- One new block, without addresses, is handed back. -/
theorem Can.one {H H2 : Hp} {r2 r : AV} {j ver : Nat} {k : Blk} (hw : Wf H) (hp : Pre H H2) (hk : H2.at j ver = some k) (hv : H.c ≤ ver) (hf : k.cells.all flat = true) (hr : r2.rel H.bs.length H.c [(j, ver)] = r) :
    Can H H2 ⟨H.bs ++ [⟨H.c, k.cells, k.tail, k.solo⟩], H.c + 1⟩ r2 r [(j, ver)] := by
  obtain ⟨h1, h2⟩ := Hp.at_some hk
  refine ⟨rfl, by simp, fun b hb => ?_, fun i j' ver' h => ?_, by simp, fun i k' hk' => ?_, hr⟩
  · obtain ⟨k, g1, g2, g3, g4⟩ := Can.old_pre hw hp [⟨H.c, k.cells, k.tail, k.solo⟩] b hb
    refine ⟨k, g1, g2, g3, .inl ?_⟩
    rcases g4 with g4 | _
    · exact g4
    · rwa [List.getElem?_append_left hb] at g3
  · have hi : i = 0 := by
      have := (List.getElem?_eq_some_iff.1 h).1; simp at this; exact this
    subst hi
    simp at h
    obtain ⟨rfl, rfl⟩ := h
    exact ⟨hv, k, h1, h2, by simp [flats_rel hf]⟩
  · have hi : i = 0 := by
      have := (List.getElem?_eq_some_iff.1 hk').1; simp at this; omega
    subst hi
    simp at hk'
    subst hk'
    exact flats_bad hf
open Classical in
/-- A function is sound if its code comes to what is told, named anew. -/
theorem sound_of {P : Program} {T : Tab} {E : Env} (hT : TOK P T) (hE : EOK P E) (hmix : P.follows .mixedOrders = true) {g : Nat} {fn : Func} {c : Code} (A : Ann) {cc : Cc} (hf : P.funcs[g]? = some fn) (hb : fn.body = some c)
    (hn : (fn.name == "runtime.NumGoroutine") = false) (hok : okCode E A c = true) (hsl : okSlots fn.ntmps c = true) (hrec : okRecs A c = true) (hsh : shortC A c = cc) (n : Nat) (hnt : (decide (n ≤ fn.ntmps) && decide (fn.ntmps ≤ 1000000)) = true) (rs : List ResultVar) (hrs : fn.results.toList = rs)
    {F : List AV → Hp → Option (AV × Hp)}
    (hF : ∀ args H r H', Wf H → F args H = some (r, H') → args.length = n ∧ X E T cc (argSl args 0) H fun x s' H2 => (x = .norm ∨ x = .ret) ∧ ∃ vs js, xres T s' H2 rs = some vs ∧ Can H H2 H' (xret vs) r js) : Sound P g F := by
  simp only [Bool.and_eq_true, decide_eq_true_eq] at hnt
  refine ⟨⟨fn, hf, by rw [hb]; rfl, hn⟩, ?_⟩
  intro args H r H' hx B0 w0 G w vargs hst hrv
  obtain ⟨hlen, hX⟩ := hF args H r H' (fun b k hk => (hst.blk b k hk).1) hx
  have hbad : get (argSl args 0) 1000000 = .bad := by
    rw [get_argSl, if_pos (Nat.zero_le _), List.getElem?_eq_none (by omega)]; rfl
  obtain ⟨k, x, s', H2, hk, ⟨hxe, vs, js, hvs, hcan⟩, _⟩ := X_sound hnt.2 c hsl hrec (argSl args 0) H _ hbad (hsh ▸ hX)
  have hs := Sound_body hT hE hmix (F := fun a h => if a = args ∧ h = H then some (xret vs, H2) else none) hf hb hn hok n (by
    intro a h r' h' he
    split at he
    · rename_i hh
      obtain ⟨rfl, rfl⟩ := hh
      cases he
      refine ⟨hlen, k, ?_⟩
      unfold xbody
      rw [hk, hrs]
      rcases hxe with rfl | rfl <;> simp [hvs]
    · cases he) hnt.1
  have := hs.2 args H (xret vs) H2 (by simp) B0 w0 G w vargs hst hrv
  refine this.mono ?_
  rintro e w' ⟨v, G2, rfl, hl, hst2, hrv2⟩
  obtain ⟨G', e1, e2, e3⟩ := hcan.st hst hst2 hl hrv2
  exact ⟨v, G', rfl, e1, e2, e3⟩
/- Types that are told are right; environments as lists; what the executor's steps come to. -/
/-! ### types -/
def sameZ : AV → Value → Bool
  | .int k n, .int k' m => k == k' && n == m
  | .bool b, .bool b' => b == b'
  | .str s, .string s' => decide (s = s')
  | .nilS, .slice none 0 0 => true
  | .nilP, .pointer none => true
  | .nilF, .nilFunc => true
  | .nilI, .nilIface => true
  | _, _ => false
def samesZ : List AV → List Value → Bool
  | [], [] => true
  | a :: l, v :: m => sameZ a v && samesZ l m
  | _, _ => false
theorem sameZ_ok {G : Cx} {a : AV} {v : Value} (h : sameZ a v = true) : RV G a v ∧ a.one = true := by
  unfold sameZ at h
  split at h
  · simp at h; obtain ⟨rfl, rfl⟩ := h; exact ⟨.int _ _, rfl⟩
  · simp at h; subst h; exact ⟨.bool _, rfl⟩
  · simp at h; subst h; exact ⟨.str _, rfl⟩
  · exact ⟨.nilS, rfl⟩
  · exact ⟨.nilP, rfl⟩
  · exact ⟨.nilF, rfl⟩
  · exact ⟨.nilI, rfl⟩
  · cases h
theorem samesZ_ok {l : List AV} {m : List Value} (h : samesZ l m = true) : (∀ G, RVs G l m) ∧ l.all AV.one = true := by
  induction l generalizing m with
  | nil => cases m with
    | nil => exact ⟨fun _ => .nil, rfl⟩
    | cons v m => cases h
  | cons a l ih => cases m with
    | nil => cases h
    | cons v m =>
      simp only [samesZ, Bool.and_eq_true] at h
      obtain ⟨h1, h2⟩ := ih h.2
      exact ⟨fun G => .cons _ _ _ _ (sameZ_ok h.1).1 (h1 G), by simp [(sameZ_ok (G := ⟨fun _ _ => none, fun _ => 0, 0⟩) h.1).2, h2]⟩
def okDesc (P : Program) (t : Nat) : TD → Bool
  | .bool => (match P.underlying t with | some .bool => true | _ => false)
  | .int k => (match P.underlying t with | some (.int k') => k == k' | _ => false)
  | .str => (match P.underlying t with | some .string => true | _ => false)
  | .slice e => (match P.underlying t with | some (.slice e') => e == e' | _ => false)
  | .array n e => (match P.underlying t with | some (.array n' e') => n == n' && e == e' | _ => false)
  | .struct fs => (match P.underlying t with | some (.struct fields) => fields.toList.map (fun f => (f.offset, f.type)) == fs && fields.toList.all (fun f => (P.info? f.type).isSome) | _ => false)
  | .ptr e => (match P.underlying t with | some (.pointer e') => e == e' | _ => false)
  | .func => (match P.underlying t with | some (.func _ _ _) => true | _ => false)
  | .other => false
def okTI (P : Program) (t : Nat) (i : TI) : Bool :=
  (match P.info? t with
    | some q => q.size == i.size && q.bytes == i.bytes && (match q.zero with | some z => samesZ i.zero z.cells.toList | none => false) && i.zero.length == i.size
    | none => false) && okDesc P t i.d
theorem okTI_ok {P : Program} {t : Nat} {i : TI} (h : okTI P t i = true) : TyOK P t i := by
  unfold okTI at h
  simp only [Bool.and_eq_true] at h
  obtain ⟨h1, h2⟩ := h
  constructor
  · split at h1
    · rename_i q hq
      simp only [Bool.and_eq_true, beq_iff_eq] at h1
      obtain ⟨⟨⟨a1, a2⟩, a3⟩, a4⟩ := h1
      split at a3
      · rename_i z hz
        obtain ⟨b1, b2⟩ := samesZ_ok a3
        exact ⟨q, z, hq, a1, a2, hz, b1, a4, b2⟩
      · cases a3
    · cases h1
  · unfold okDesc at h2
    split at h2 <;> rename_i hd <;> rw [hd] <;> simp only
    all_goals first
      | (cases h2; done)
      | skip
    all_goals (split at h2 <;> first | (cases h2; done) | skip)
    · assumption
    · rename_i he; simp at h2; subst h2; exact he
    · assumption
    · rename_i he; simp at h2; subst h2; exact he
    · rename_i he; simp at h2; obtain ⟨rfl, rfl⟩ := h2; exact he
    · rename_i fields he; simp only [Bool.and_eq_true, beq_iff_eq] at h2; exact ⟨fields, he, h2.1, h2.2⟩
    · rename_i he; simp at h2; subst h2; exact he
    · rename_i a b v he; exact ⟨a, b, v, he⟩
def lookT : List (Nat × TI) → Nat → Option TI
  | [], _ => none
  | p :: l, t => if t = p.1 then some p.2 else lookT l t
theorem tok_list {P : Program} {l : List (Nat × TI)} (h : (l.all fun p => okTI P p.1 p.2) = true) : TOK P (lookT l) := by
  intro t i hi
  induction l with
  | nil => cases hi
  | cons p l ih =>
    simp only [List.all_cons, Bool.and_eq_true] at h
    simp only [lookT] at hi
    split at hi
    · rename_i ht; cases hi; subst ht; exact okTI_ok h.1
    · exact ih h.2 hi
/-! ### environments -/
def envL : List (Nat × FSem) → Env
  | [], _ => none
  | p :: l, g => if g = p.1 then some p.2 else envL l g
theorem EOK_nil (P : Program) : EOK P (envL []) := by intro g F h; cases h
theorem EOK_cons {P : Program} {g : Nat} {F : FSem} {l : List (Nat × FSem)} (h : Sound P g F.run) (hl : EOK P (envL l)) : EOK P (envL ((g, F) :: l)) := by
  intro g' F' h'
  simp only [envL] at h'
  split at h'
  · rename_i e; cases h'; subst e; exact h
  · exact hl g' F' h'
/- The executor's steps, each as a rule to rewrite with; slices of numbers. -/
def w (x : Int) : Int := IntKind.i64.wrap x
def apick (c a b : AV) : Option AV := match c with | .bool t => some (if t = true then a else b) | _ => none
def aunop (op : UnOp) (x : AV) : Option AV := match op, x with
  | .not, .bool b => some (.bool !b)
  | .neg, .int k n => some (.int k (k.wrap (0 - n)))
  | _, _ => none
def aidxS (es : Nat) (x i : AV) : Option AV := match x, i with
  | .sl b v o n es' _, .int _ j => if es = es' ∧ 0 ≤ j ∧ j < n then some (.ptr b v (o + j.toNat * es')) else none
  | _, _ => none
def aidxA (n es : Nat) (x i : AV) : Option AV := match x, i with
  | .ptr b v o, .int _ j => if 0 ≤ j ∧ j < n then some (.ptr b v (o + j.toNat * es)) else none
  | _, _ => none
def aidx (T : Tab) (t : Nat) (x i : AV) : Option AV := match Tab.d T t with
  | .slice e => (T e).bind fun ie => aidxS ie.size x i
  | .array n e => (T e).bind fun ie => aidxA n ie.size x i
  | _ => none
def alenS (x : AV) : Option AV := match x with
  | .nilS => some (.int .i64 0)
  | .mtS => some (.int .i64 0)
  | .sl _ _ _ n _ _ => some (.int .i64 n)
  | _ => none
def alen (T : Tab) (t : Nat) (x : AV) : Option AV := match Tab.d T t with
  | .slice _ => alenS x
  | .str => (match x with | .str z => some (.int .i64 z.size) | _ => none)
  | .array n _ => some (.int .i64 n)
  | _ => none
def amin (x y : AV) : Option AV := match x, y with | .int k a, .int k' b => if k = k' then some (.int k (if a ≤ b then a else b)) else none | _, _ => none
def amax (x y : AV) : Option AV := match x, y with | .int k a, .int k' b => if k = k' then some (.int k (if b ≤ a then a else b)) else none | _, _ => none
def aext (x : AV) (i : Nat) : Option AV := match x with | .tup vs => vs[i]? | _ => none
def afaddr (T : Tab) (fs : List (Nat × Nat)) (x : AV) (f : Nat) : Option AV := match x with
  | .ptr b v o => (fs[f]?).bind fun p => (T p.2).bind fun i => if i.size = 0 then none else some (.ptr b v (o + p.1))
  | _ => none
def afaddr' (T : Tab) (t : Nat) (x : AV) (f : Nat) : Option AV := match Tab.d T t with | .struct fs => afaddr T fs x f | _ => none
def amake (T : Tab) (t : Nat) (l c : AV) (H : Hp) : Option (AV × Hp) := match Tab.d T t with
  | .slice e => (T e).bind fun ie => (match l, c with
    | .int _ n, .int _ m => if n = m ∧ 0 ≤ n ∧ ie.bytes * n ≤ 281474976710656 ∧ n ≤ 281474976710656 then some (.sl H.bs.length H.c 0 n.toNat ie.size true, H.new (rep n.toNat ie.zero)) else none
    | _, _ => none)
  | _ => none
def aapp (T : Tab) (share : Bool) (t u : Nat) (x y : AV) (H : Hp) : Option (AV × Hp) := match Tab.d T t with
  | .slice e => (match Tab.d T u with | .slice _ => (T e).bind fun ie => aappend share ie.size ie.bytes x y H | _ => none)
  | _ => none
def acall (E : Env) (f : AV) (as : List AV) (H : Hp) : Option (AV × Hp) := match f with
  | .func g caps => (E g).bind fun F => F.run (as ++ caps) H
  | _ => none
def anil (x : AV) : Option AV := match x with | .ptr b v o => some (.ptr b v o) | _ => none
section
variable {E : Env} {T : Tab} {sh : Bool} {s : Sl} {H : Hp}
@[simp] theorem xdo_move (x) : xdo E T sh (.move x) s H = some (ev s x, H) := rfl
@[simp] theorem xdo_assign (x) : xdo E T sh (.assign x) s H = some (ev s x, H) := rfl
@[simp] theorem xdo_pick (c a b) : xdo E T sh (.pick c a b) s H = (apick (ev s c) (ev s a) (ev s b)).map fun v => (v, H) := by
  unfold xdo aop apick; simp only; cases ev s c <;> rfl
@[simp] theorem xdo_bin (op t x y k) : xdo E T sh (.binOp op t x y k) s H = (abin T op t (ev s x) (ev s y)).map fun v => (v, H) := rfl
@[simp] theorem xdo_un (op t x) : xdo E T sh (.unOp op t x) s H = (aunop op (ev s x)).map fun v => (v, H) := by
  unfold xdo aop aunop; simp only; cases op <;> cases ev s x <;> rfl
@[simp] theorem xdo_idx (t x i) : xdo E T sh (.indexAddr t x i) s H = (aidx T t (ev s x) (ev s i)).map fun v => (v, H) := by
  simp only [xdo, aop, aidx]
  cases Tab.d T t with
  | slice e =>
    cases hT : T e with
    | none => cases ev s x <;> cases ev s i <;> simp [hT]
    | some ie => cases ev s x <;> cases ev s i <;> first | (simp [hT, aidxS]; done) | (simp only [hT, Option.bind_some, aidxS]; split <;> rfl)
  | array n e =>
    cases hT : T e with
    | none => cases ev s x <;> cases ev s i <;> simp [hT]
    | some ie => cases ev s x <;> cases ev s i <;> first | (simp [hT, aidxA]; done) | (simp only [hT, Option.bind_some, aidxA]; split <;> rfl)
  | _ => rfl
@[simp] theorem xdo_load (t a) : xdo E T sh (.load t a) s H = (aload T t (ev s a) H).map fun v => (v, H) := rfl
@[simp] theorem xdo_store (t a x) : xdo E T sh (.store t a x) s H = (astore T t (ev s a) (ev s x) H).map fun H' => (.bad, H') := rfl
@[simp] theorem xdo_len (x t) : xdo E T sh (.call ⟨.builtin .len, #[x], #[t]⟩) s H = (alen T t (ev s x)).map fun v => (v, H) := by
  simp only [xdo, aop, alen, alenS]; cases Tab.d T t <;> cases ev s x <;> rfl
@[simp] theorem xdo_min (x y ts) : xdo E T sh (.call ⟨.builtin .min, #[x, y], ts⟩) s H = (amin (ev s x) (ev s y)).map fun v => (v, H) := by
  simp only [xdo, aop, amin]; cases ev s x <;> cases ev s y <;> first | rfl | (simp only; split <;> rfl)
@[simp] theorem xdo_max (x y ts) : xdo E T sh (.call ⟨.builtin .max, #[x, y], ts⟩) s H = (amax (ev s x) (ev s y)).map fun v => (v, H) := by
  simp only [xdo, aop, amax]; cases ev s x <;> cases ev s y <;> first | rfl | (simp only; split <;> rfl)
@[simp] theorem xdo_ext (x i) : xdo E T sh (.extract x i) s H = (aext (ev s x) i).map fun v => (v, H) := by
  simp only [xdo, aop, aext]; cases ev s x <;> rfl
@[simp] theorem xdo_faddr (t x f) : xdo E T sh (.fieldAddr t x f) s H = (afaddr' T t (ev s x) f).map fun v => (v, H) := by
  simp only [xdo, aop, afaddr', afaddr]
  cases Tab.d T t <;> cases ev s x <;> try rfl
  rename_i fs b v o
  simp only
  cases fs[f]? with
  | none => rfl
  | some p =>
    simp only [Option.bind_some]
    cases T p.2 with
    | none => rfl
    | some i => simp only [Option.bind_some]; split <;> rfl
@[simp] theorem xdo_make (t l c) : xdo E T sh (.makeSlice t l c) s H = amake T t (ev s l) (ev s c) H := by
  simp only [xdo, aop, amake]; cases Tab.d T t <;> try rfl
  rename_i e
  cases hT : T e <;> cases ev s l <;> cases ev s c <;> simp [hT]
@[simp] theorem xdo_append (x y t u) : xdo E T sh (.call ⟨.builtin .append, #[x, y], #[t, u]⟩) s H = aapp T sh t u (ev s x) (ev s y) H := by
  simp only [xdo, aop, aapp]; cases Tab.d T t <;> try rfl
  cases Tab.d T u <;> rfl
@[simp] theorem xdo_call (f as ts) : xdo E T sh (.call ⟨.value f, as, ts⟩) s H = acall E (ev s f) (as.toList.map (ev s)) H := by
  unfold xdo acall; simp only
  cases ev s f <;> rfl
@[simp] theorem xdo_nil (x) : xdo E T sh (.nilCheck x) s H = (anil (ev s x)).map fun v => (v, H) := by
  simp only [xdo, aop, anil]; cases ev s x <;> rfl
end
/-! ### arithmetic -/
@[simp] theorem abin_add (T : Tab) (t a b) : abin T .add t (.int .i64 a) (.int .i64 b) = some (.int .i64 (w (a + b))) := rfl
@[simp] theorem abin_sub (T : Tab) (t a b) : abin T .sub t (.int .i64 a) (.int .i64 b) = some (.int .i64 (w (a - b))) := rfl
@[simp] theorem abin_mul (T : Tab) (t a b) : abin T .mul t (.int .i64 a) (.int .i64 b) = some (.int .i64 (w (a * b))) := rfl
@[simp] theorem abin_quo (T : Tab) (t a b) : abin T .quo t (.int .i64 a) (.int .i64 b) = if b = 0 then none else some (.int .i64 (w (a.tdiv b))) := rfl
@[simp] theorem abin_rem (T : Tab) (t a b) : abin T .rem t (.int .i64 a) (.int .i64 b) = if b = 0 then none else some (.int .i64 (a.tmod b)) := rfl
@[simp] theorem abin_eql (T : Tab) (t k a b) : abin T .eql t (.int k a) (.int k b) = some (.bool (decide (a = b))) := by
  unfold abin aint acmp; simp only; rw [if_pos trivial]; congr 2
@[simp] theorem abin_neq (T : Tab) (t k a b) : abin T .neq t (.int k a) (.int k b) = some (.bool (!decide (a = b))) := by
  unfold abin aint acmp; simp only; rw [if_pos trivial]; congr 2
@[simp] theorem abin_lss (T : Tab) (t k a b) : abin T .lss t (.int k a) (.int k b) = some (.bool (decide (a < b))) := by unfold abin; simp only; rw [if_pos trivial]; rfl
@[simp] theorem abin_leq (T : Tab) (t k a b) : abin T .leq t (.int k a) (.int k b) = some (.bool (decide (a ≤ b))) := by unfold abin; simp only; rw [if_pos trivial]; rfl
@[simp] theorem abin_gtr (T : Tab) (t k a b) : abin T .gtr t (.int k a) (.int k b) = some (.bool (decide (b < a))) := by unfold abin; simp only; rw [if_pos trivial]; rfl
@[simp] theorem abin_geq (T : Tab) (t k a b) : abin T .geq t (.int k a) (.int k b) = some (.bool (decide (b ≤ a))) := by unfold abin; simp only; rw [if_pos trivial]; rfl
@[simp] theorem apick_bool (t : Bool) (a b : AV) : apick (.bool t) a b = some (if t = true then a else b) := rfl
@[simp] theorem aunop_not (b : Bool) : aunop .not (.bool b) = some (.bool !b) := rfl
@[simp] theorem aunop_neg (n : Int) : aunop .neg (.int .i64 n) = some (.int .i64 (w (0 - n))) := rfl
@[simp] theorem get_cons (j : Nat) (v : AV) (l : Sl) (i : Nat) : get ((j, v) :: l) i = if i = j then v else get l i := rfl
@[simp] theorem ev_tmp (s : Sl) (t : Nat) : ev s (.tmp t) = get s t := rfl
@[simp] theorem ev_const (s : Sl) (v : Value) : ev s (.const v) = ofConst v := rfl
@[simp] theorem ev_func (s : Sl) (f : FuncId) : ev s (.func f) = .func f [] := rfl
@[simp] theorem ofConst_int (k n) : ofConst (.int k n) = .int k n := rfl
@[simp] theorem ofConst_bool (b) : ofConst (.bool b) = .bool b := rfl
@[simp] theorem ofConst_nilS : ofConst (.slice none 0 0) = .nilS := rfl
@[simp] theorem ofConst_nilP : ofConst (.pointer none) = .nilP := rfl
@[simp] theorem cput_some (d : Nat) (v s) : cput (some d) v s = (d, v) :: s := rfl
@[simp] theorem cput_none (v s) : cput none v s = s := rfl
@[simp] theorem cut_nil (s : Sl) : cutSl [] s = [] := rfl
@[simp] theorem cut_cons (j : Nat) (l : List Nat) (s : Sl) : cutSl (j :: l) s = (j, get s j) :: cutSl l s := rfl
section
variable {E : Env} {T : Tab} {s : Sl} {H : Hp}
theorem XG_none (yes no : Prop) : XG none s yes no = yes := rfl
theorem XG_some (j : Nat) (want : Bool) (yes no : Prop) {b : Bool} (h : get s j = .bool b) : XG (some (j, want)) s yes no = ((b = want → yes) ∧ (b ≠ want → no)) := by
  simp only [XG, h]
theorem XL_cons (sh : Bool) (d : Option Nat) (o : Op) (g : Option (Nat × Bool)) (l R) : XL E T sh (⟨d, o, g⟩ :: l) s H R = XG g s (opt (xdo E T sh o s H) fun r => XL E T sh l (cput d r.1 s) r.2 R) (XL E T sh l (cput d (.tup []) s) H R) := rfl
/-- A branch. -/
def XB (v : AV) (y n : Prop) : Prop := match v with | .bool t => (t = true → y) ∧ (t = false → n) | _ => False
theorem XB_bool (t : Bool) (y n : Prop) : XB (.bool t) y n = ((t = true → y) ∧ (t = false → n)) := rfl
def seqK (E : Env) (T : Tab) (b : Cc) (Q : Ex → Sl → Hp → Prop) : Ex → Sl → Hp → Prop := fun x s' H' => match x with | .norm => X E T b s' H' Q | x => Q x s' H'
def blkK (id : Nat) (Q : Ex → Sl → Hp → Prop) : Ex → Sl → Hp → Prop := fun x s' H' => match x with | .exit j => Q (if j = id then .norm else .exit j) s' H' | x => Q x s' H'
theorem X_cond (c a b Q) : X E T (.cond c a b) s H Q = XB (ev s c) (X E T a s H Q) (X E T b s H Q) := rfl
def loopK (I : Nat → Sl → Hp → Prop) (m : Nat) (Q : Ex → Sl → Hp → Prop) : Ex → Sl → Hp → Prop := fun x s' H' => match x with | .norm => ∃ m', m' < m ∧ I m' s' H' | x => Q x s' H'
theorem X_loop {lv b Q} (I : Nat → Sl → Hp → Prop) (m : Nat) (h0 : I m s H) (h : ∀ m s1 H1, I m s1 H1 → X E T b (cutSl lv s1) H1 (loopK I m Q)) : X E T (.loop lv false b) s H Q :=
  ⟨I, ⟨m, h0⟩, h⟩
end
/-! ### slices of numbers -/
def toInt : AV → Option Int | .int .i64 n => some n | _ => none
def toInts : List AV → Option (List Int)
  | [] => some []
  | a :: l => match toInt a, toInts l with | some n, some m => some (n :: m) | _, _ => none
theorem toInts_some : ∀ {l : List AV} {m : List Int}, toInts l = some m → l = m.map (.int .i64) := by
  intro l
  induction l with
  | nil => intro m h; cases h; rfl
  | cons a l ih =>
    intro m h
    simp only [toInts] at h
    split at h
    · rename_i n m' h1 h2
      cases h
      have : a = .int .i64 n := by
        unfold toInt at h1; split at h1
        · cases h1; rfl
        · cases h1
      rw [this, ih h2]; rfl
    · cases h
theorem toInts_map (m : List Int) : toInts (m.map (.int .i64)) = some m := by
  induction m with
  | nil => rfl
  | cons n m ih => simp [toInts, toInt, ih]
/-- The numbers of a slice. -/
def ints (H : Hp) (v : AV) : Option (List Int) :=
  match v with
  | .nilS => some []
  | .mtS => some []
  | .sl b ver off n es _ => if es = 1 ∧ n ≤ 1152921504606846976 then (match H.at b ver with
    | some k => if off + n ≤ k.cells.length then toInts ((k.cells.drop off).take n) else none
    | none => none) else none
  | _ => none
theorem ints_cells {H : Hp} {v : AV} {l : List Int} (h : ints H v = some l) : slCells H v = some (l.length, l.map (.int .i64)) := by
  unfold ints at h
  split at h
  · cases h; rfl
  · cases h; rfl
  · rename_i b ver off n es full
    split at h
    · rename_i he
      obtain ⟨rfl, _⟩ := he
      split at h
      · rename_i k hk
        split at h
        · rename_i hle
          have h2 := toInts_some h
          have hlen : l.length = n := by
            have := congrArg List.length h2
            simp at this; omega
          simp only [slCells, hk, Nat.mul_one]
          rw [if_pos hle, hlen, h2]
        · cases h
      · cases h
    · cases h
  · cases h
theorem ints_len {H : Hp} {v : AV} {l : List Int} (h : ints H v = some l) : l.length ≤ 1152921504606846976 := by
  have hc := ints_cells h
  unfold ints at h
  split at h
  · cases h; simp
  · cases h; simp
  · split at h
    · rename_i he
      unfold slCells at hc
      simp only at hc
      split at hc
      · split at hc
        · simp only [Option.some.injEq, Prod.mk.injEq] at hc; omega
        · cases hc
      · cases hc
    · cases h
  · cases h
/-- The place of a number. -/
def pAt (v : AV) (j : Int) : AV := match v with | .sl b ver off _ es _ => .ptr b ver (off + j.toNat * es) | _ => .bad
theorem alenS_ints {H : Hp} {v : AV} {l : List Int} (h : ints H v = some l) : alenS v = some (.int .i64 l.length) := by
  have := ints_cells h
  unfold slCells at this
  split at this
  · simp only [Option.some.injEq, Prod.mk.injEq] at this; simp only [alenS]; rw [← this.1]; rfl
  · simp only [Option.some.injEq, Prod.mk.injEq] at this; simp only [alenS]; rw [← this.1]; rfl
  · split at this
    · split at this
      · simp only [Option.some.injEq, Prod.mk.injEq] at this; simp only [alenS]; rw [this.1]
      · cases this
    · cases this
  · cases this
theorem aidxS_ints {H : Hp} {v : AV} {l : List Int} (h : ints H v = some l) (k : IntKind) (j : Int) : aidxS 1 v (.int k j) = if 0 ≤ j ∧ j < l.length then some (pAt v j) else none := by
  have hc := ints_cells h
  unfold ints at h
  split at h
  · cases h; simp only [aidxS]; rw [if_neg (by simp)]
  · cases h; simp only [aidxS]; rw [if_neg (by simp)]
  · rename_i b ver off n es full
    split at h
    · rename_i he
      obtain ⟨rfl, _⟩ := he
      have hn : n = l.length := by
        unfold slCells at hc; simp only at hc
        split at hc
        · split at hc
          · simp only [Option.some.injEq, Prod.mk.injEq] at hc; exact hc.1
          · cases hc
        · cases hc
      subst hn
      simp [aidxS, pAt]
    · cases h
  · cases h
theorem aload_ints {T : Tab} {i : TI} {t : Nat} (ht : T t = some i) (hi : i.d = .int .i64) {H : Hp} {v : AV} {l : List Int} (h : ints H v = some l) (j : Int) (h0 : 0 ≤ j) (hj : j < l.length) : aload T t (pAt v j) H = (l[j.toNat]?).map (.int .i64) := by
  unfold ints at h
  split at h
  · cases h; simp [aload, ht, pAt]
  · cases h; simp [aload, ht, pAt]
  · rename_i b ver off n es full
    split at h
    · rename_i he
      obtain ⟨rfl, _⟩ := he
      split at h
      · rename_i k hk
        split at h
        · rename_i hle
          have h2 := toInts_some h
          have hlen : l.length = n := by
            have := congrArg List.length h2
            simp at this; omega
          simp only [aload, ht, pAt, hk, hi]
          have : k.cells[off + j.toNat * 1]? = ((k.cells.drop off).take n)[j.toNat]? := by
            rw [List.getElem?_take, List.getElem?_drop, Nat.mul_one]
            split
            · rfl
            · omega
          rw [this, h2, List.getElem?_map]
        · cases h
      · cases h
    · cases h
  · cases h
/-- The beginning of a slice. -/
def preS (v : AV) (j : Int) : AV := match v with | .sl b ver off n es full => .sl b ver off j.toNat es (full && decide (j = n)) | v => v
theorem aslice_pre {H : Hp} {v : AV} {l : List Int} (h : ints H v = some l) (k : IntKind) (j : Int) : aslice 1 v none (some (.int k j)) none = if 0 ≤ j ∧ j ≤ l.length then some (preS v j) else none := by
  have hl := alenS_ints h
  unfold ints at h
  split at h
  · cases h
    simp only [aslice, bnd, preS, List.length_nil]
    by_cases hj : j = 0
    · subst hj; simp
    · rw [if_neg (by simp [hj]), if_neg (by simp; omega)]
  · cases h
    simp only [aslice, bnd, preS, List.length_nil]
    by_cases hj : j = 0
    · subst hj; simp
    · rw [if_neg (by simp [hj]), if_neg (by simp; omega)]
  · rename_i b ver off n es full
    split at h
    · rename_i he
      obtain ⟨rfl, _⟩ := he
      have hn : (n : Int) = l.length := by simpa [alenS] using hl
      simp [aslice, bnd, preS, hn]
    · cases h
  · cases h
theorem ints_pre {H : Hp} {v : AV} {l : List Int} (h : ints H v = some l) (j : Int) (h0 : 0 ≤ j) (hj : j ≤ l.length) : ints H (preS v j) = some (l.take j.toNat) := by
  have hl := alenS_ints h
  unfold ints at h
  split at h
  · cases h; simp [preS, ints]
  · cases h; simp [preS, ints]
  · rename_i b ver off n es full
    have hn : (n : Int) = l.length := by simpa [alenS] using hl
    split at h
    · rename_i he
      split at h
      · rename_i k hk
        split at h
        · rename_i hle
          have h2 := toInts_some h
          have he' : es = 1 ∧ j.toNat ≤ 1152921504606846976 := ⟨he.1, by omega⟩
          simp only [preS, ints, he', and_self, if_true, hk]
          rw [if_pos (by omega)]
          have : (k.cells.drop off).take j.toNat = ((k.cells.drop off).take n).take j.toNat := by
            rw [List.take_take, Nat.min_eq_left (by omega)]
          rw [this, h2, ← List.map_take, toInts_map]
        · cases h
      · cases h
    · cases h
  · cases h
def nth (l : List Int) (j : Int) : Int := l.getD j.toNat 0
theorem aload_nth {T : Tab} {i : TI} {t : Nat} (ht : T t = some i) (hi : i.d = .int .i64) {H : Hp} {v : AV} {l : List Int} (h : ints H v = some l) (j : Int) (h0 : 0 ≤ j) (hj : j < l.length) : aload T t (pAt v j) H = some (.int .i64 (nth l j)) := by
  rw [aload_ints ht hi h j h0 hj]
  have : j.toNat < l.length := by omega
  simp [nth, List.getD_eq_getElem?_getD, this]
theorem drop_nth (l : List Int) (i : Nat) (h : i < l.length) : l.drop i = nth l i :: l.drop (i + 1) := by
  rw [List.drop_eq_getElem_cons h]
  simp [nth, List.getD_eq_getElem?_getD, h]
theorem w_id {x : Int} (h : -9223372036854775808 ≤ x ∧ x < 9223372036854775808) : w x = x := by
  have : IntKind.i64.wrap x = x := by
    simp [IntKind.wrap, IntKind.bits, IntKind.signed]
    omega
  exact this
/- How a walk goes: one rule for each step. -/
/-- A fact that a walk's steps shall not look at. -/
structure Hide (p : Prop) : Prop where out : p
/-- What comes behind. -/
inductive Ct where
  | fin (Q : Ex → Sl → Hp → Prop)
  | seq (b : Cc) (k : Ct)
  | blk (id : Nat) (k : Ct)
  | loop (I : Nat → Sl → Hp → Prop) (m : Nat) (k : Ct)
def Ct.den (E : Env) (T : Tab) : Ct → Ex → Sl → Hp → Prop
  | .fin Q => Q
  | .seq b k => seqK E T b (k.den E T)
  | .blk id k => blkK id (k.den E T)
  | .loop I m k => loopK I m (k.den E T)
structure Y (E : Env) (T : Tab) (c : Cc) (s : Sl) (H : Hp) (k : Ct) : Prop where out : X E T c s H (k.den E T)
structure YL (E : Env) (T : Tab) (sh : Bool) (l : List Co) (s : Sl) (H : Hp) (k : Ct) : Prop where out : XL E T sh l s H fun s' H' => k.den E T .norm s' H'
structure K (E : Env) (T : Tab) (k : Ct) (x : Ex) (s : Sl) (H : Hp) : Prop where out : k.den E T x s H
section
variable {E : Env} {T : Tab} {s : Sl} {H : Hp} {k : Ct}
theorem go {c} {Q : Ex → Sl → Hp → Prop} (h : Y E T c s H (.fin Q)) : X E T c s H Q := h.out
theorem goFin {x} {Q : Ex → Sl → Hp → Prop} (h : Q x s H) : K E T (.fin Q) x s H := ⟨h⟩
theorem goSeq {a b} (h : Y E T a s H (.seq b k)) : Y E T (.seq a b) s H k := ⟨h.out⟩
theorem goReg {sh l} (h : YL E T sh l s H k) : Y E T (.reg sh l) s H k := ⟨h.out⟩
theorem goSkip (h : K E T k .norm s H) : Y E T .skip s H k := ⟨h.out⟩
theorem goBlock {id b} (h : Y E T b s H (.blk id k)) : Y E T (.block id b) s H k := ⟨h.out⟩
theorem goExit {i} (h : K E T k (.exit i) s H) : Y E T (.exit i) s H k := ⟨h.out⟩
theorem goRet (h : K E T k .ret s H) : Y E T .ret s H k := ⟨h.out⟩
theorem goSeqN {b} (h : Y E T b s H k) : K E T (.seq b k) .norm s H := ⟨h.out⟩
theorem goSeqR {b} (h : K E T k .ret s H) : K E T (.seq b k) .ret s H := ⟨h.out⟩
theorem goSeqE {b i} (h : K E T k (.exit i) s H) : K E T (.seq b k) (.exit i) s H := ⟨h.out⟩
theorem goBlkN {id} (h : K E T k .norm s H) : K E T (.blk id k) .norm s H := ⟨h.out⟩
theorem goBlkR {id} (h : K E T k .ret s H) : K E T (.blk id k) .ret s H := ⟨h.out⟩
theorem goBlkE {id} (h : K E T k .norm s H) : K E T (.blk id k) (.exit id) s H := ⟨by simp only [Ct.den, blkK, if_true]; exact h.out⟩
theorem goBlkX {id j : Nat} (hj : (j == id) = false) (h : K E T k (.exit j) s H) : K E T (.blk id k) (.exit j) s H := ⟨by
  simp only [Ct.den, blkK]; rw [if_neg (by simpa using hj)]; exact h.out⟩
theorem goLoopN {I : Nat → Sl → Hp → Prop} {m : Nat} (m' : Nat) (hm : m' < m) (h : I m' s H) : K E T (.loop I m k) .norm s H := ⟨⟨m', hm, h⟩⟩
theorem goLoopR {I m} (h : K E T k .ret s H) : K E T (.loop I m k) .ret s H := ⟨h.out⟩
theorem goLoopE {I m i} (h : K E T k (.exit i) s H) : K E T (.loop I m k) (.exit i) s H := ⟨h.out⟩
theorem goLoop {lv b} (I : Nat → Sl → Hp → Prop) (m : Nat) (h0 : I m s H) (h : ∀ m s1 H1, I m s1 H1 → Y E T b (cutSl lv s1) H1 (.loop I m k)) : Y E T (.loop lv false b) s H k :=
  ⟨X_loop I m h0 fun m s1 H1 hi => (h m s1 H1 hi).out⟩
theorem goIfB {c a b t} (he : ev s c = .bool t) (h1 : t = true → Y E T a s H k) (h2 : t = false → Y E T b s H k) : Y E T (.cond c a b) s H k := ⟨by
  rw [X_cond, he, XB_bool]; exact ⟨fun h => (h1 h).out, fun h => (h2 h).out⟩⟩
theorem goIfQ {c a b t q} (he : ev s c = q) (eq : q = .bool t) (h1 : t = true → Y E T a s H k) (h2 : t = false → Y E T b s H k) : Y E T (.cond c a b) s H k := goIfB (he.trans eq) h1 h2
theorem goIf {c a b p q} {_ : Decidable p} (he : ev s c = q) (eq : q = .bool (decide p)) (h1 : p → Y E T a s H k) (h2 : ¬p → Y E T b s H k) : Y E T (.cond c a b) s H k :=
  goIfB (he.trans eq) (fun h => h1 (of_decide_eq_true h)) (fun h => h2 (of_decide_eq_false h))
theorem goIfT {c a b} (he : ev s c = .bool true) (h1 : Y E T a s H k) : Y E T (.cond c a b) s H k := goIfB he (fun _ => h1) (fun h => by cases h)
theorem goIfF {c a b} (he : ev s c = .bool false) (h1 : Y E T b s H k) : Y E T (.cond c a b) s H k := goIfB he (fun h => by cases h) (fun _ => h1)
theorem goNil {sh} (h : K E T k .norm s H) : YL E T sh [] s H k := ⟨h.out⟩
theorem goOp {sh d o l v H' q} (e : xdo E T sh o s H = q) (eq : q = some (v, H')) (h : YL E T sh l ((d, v) :: s) H' k) : YL E T sh (⟨some d, o, none⟩ :: l) s H k := ⟨by
  rw [XL_cons, XG_none, e, eq, opt_some]; exact h.out⟩
theorem goOp0 {sh o l v H' q} (e : xdo E T sh o s H = q) (eq : q = some (v, H')) (h : YL E T sh l s H' k) : YL E T sh (⟨none, o, none⟩ :: l) s H k := ⟨by
  rw [XL_cons, XG_none, e, eq, opt_some]; exact h.out⟩
theorem goYes {sh d o l v H' j want q} (hg : get s j = .bool want) (e : xdo E T sh o s H = q) (eq : q = some (v, H')) (h : YL E T sh l ((d, v) :: s) H' k) : YL E T sh (⟨some d, o, some (j, want)⟩ :: l) s H k := ⟨by
  rw [XL_cons, XG_some j want _ _ hg, e, eq, opt_some]; exact ⟨fun _ => h.out, fun hh => absurd rfl hh⟩⟩
theorem goNo {sh d o l j want} (hg : get s j = .bool (!want)) (h : YL E T sh l ((d, .tup []) :: s) H k) : YL E T sh (⟨some d, o, some (j, want)⟩ :: l) s H k := ⟨by
  rw [XL_cons, XG_some j want _ _ hg]; exact ⟨fun hh => (by cases want <;> cases hh), fun _ => h.out⟩⟩
theorem goNoU {sh d o l j want cs} (hg : get s j = .tup cs) (h : YL E T sh l ((d, .tup []) :: s) H k) : YL E T sh (⟨some d, o, some (j, want)⟩ :: l) s H k := ⟨by
  rw [XL_cons]; simp only [XG, hg]; exact h.out⟩
theorem goSplitQ {sh d o l j want t q} (hg : get s j = q) (eq : q = .bool t) (h1 : t = true → YL E T sh (⟨d, o, some (j, want)⟩ :: l) s H k) (h2 : t = false → YL E T sh (⟨d, o, some (j, want)⟩ :: l) s H k) : YL E T sh (⟨d, o, some (j, want)⟩ :: l) s H k := by
  cases t
  · exact h2 rfl
  · exact h1 rfl
theorem goSplit {sh d o l j want p q} {_ : Decidable p} (hg : get s j = q) (eq : q = .bool (decide p)) (h1 : p → YL E T sh (⟨d, o, some (j, want)⟩ :: l) s H k) (h2 : ¬p → YL E T sh (⟨d, o, some (j, want)⟩ :: l) s H k) : YL E T sh (⟨d, o, some (j, want)⟩ :: l) s H k := by
  by_cases hp : p
  · exact h1 hp
  · exact h2 hp
/-- The end of a walk that hands back nothing new. -/
theorem goEnd {H0 : Hp} {x : Ex} {rs : List ResultVar} {q : Option (List AV)} {vs : List AV} {r : AV} (hw : Wf H0) (hp : Pre H0 H) (hx : x = .norm ∨ x = .ret) (e : xres T s H rs = q) (eq : q = some vs) (hr : (xret vs).rel H0.bs.length H0.c [] = r) :
    K E T (.fin fun x s' H2 => (x = .norm ∨ x = .ret) ∧ ∃ vs js, xres T s' H2 rs = some vs ∧ Can H0 H2 H0 (xret vs) r js) x s H := ⟨⟨hx, vs, [], e.trans eq, Can.pure hw hp hr⟩⟩
@[simp] theorem xres_nil (T : Tab) (s H) : xres T s H [] = some [] := rfl
@[simp] theorem xres_tmp (T : Tab) (s H t l) : xres T s H (.tmp t :: l) = (xres T s H l).map (get s t :: ·) := rfl
@[simp] theorem xret_one (v : AV) : xret [v] = v := rfl
@[simp] theorem xret_two (a b : AV) (l) : xret (a :: b :: l) = .tup (a :: b :: l) := rfl
@[simp] theorem rel_int (L c js k n) : (AV.int k n).rel L c js = .int k n := rfl
@[simp] theorem rel_bool (L c js b) : (AV.bool b).rel L c js = .bool b := rfl
@[simp] theorem rel_nilS (L c js) : AV.nilS.rel L c js = .nilS := rfl
@[simp] theorem rel_tup (L c js l) : (AV.tup l).rel L c js = .tup (rels L c js l) := rfl
@[simp] theorem rels_nil (L c js) : rels L c js [] = [] := rfl
@[simp] theorem rels_cons (L c js a l) : rels L c js (a :: l) = a.rel L c js :: rels L c js l := rfl
@[simp] theorem amin_int (a b : Int) : amin (.int .i64 a) (.int .i64 b) = some (.int .i64 (if a ≤ b then a else b)) := rfl
@[simp] theorem amax_int (a b : Int) : amax (.int .i64 a) (.int .i64 b) = some (.int .i64 (if b ≤ a then a else b)) := rfl
@[simp] theorem aext_tup (l : List AV) (i : Nat) : aext (.tup l) i = l[i]? := rfl
@[simp] theorem acall_func (E : Env) (g : Nat) (caps as : List AV) (H : Hp) : acall E (.func g caps) as H = (E g).bind fun F => F.run (as ++ caps) H := rfl
@[simp] theorem envL_cons (p : Nat × FSem) (l : List (Nat × FSem)) (g : Nat) : envL (p :: l) g = if g = p.1 then some p.2 else envL l g := rfl
@[simp] theorem run_pure (f : List AV → Hp → Option AV) (as : List AV) (H : Hp) : (FSem.pure f).run as H = (f as H).map fun v => (v, H) := rfl
@[simp] theorem run_eff (f : List AV → Hp → Option (AV × Hp)) (as : List AV) (H : Hp) : (FSem.eff f).run as H = f as H := rfl
/-- A pure function's proof begins so. -/
theorem pureAt {f : List AV → Hp → Option AV} {args : List AV} {H H' : Hp} {r : AV} (h : (FSem.pure f).run args H = some (r, H')) : H' = H ∧ f args H = some r := by
  obtain ⟨v, hv, he⟩ := Option.map_eq_some_iff.1 h
  cases he; exact ⟨rfl, hv⟩
end
/-! ### the same rules; what they ask for is found -/
section
variable {E : Env} {T : Tab} {s : Sl} {H : Hp} {k : Ct}
theorem xOp {sh d o l v H' q} (h : YL E T sh l ((d, v) :: s) H' k) (e : xdo E T sh o s H = q := by simp [*]; try exact rfl; first | done | fail) (eq : q = some (v, H') := by exact rfl) : YL E T sh (⟨some d, o, none⟩ :: l) s H k := goOp e eq h
theorem xOp0 {sh o l v H' q} (h : YL E T sh l s H' k) (e : xdo E T sh o s H = q := by simp [*]; try exact rfl; first | done | fail) (eq : q = some (v, H') := by exact rfl) : YL E T sh (⟨none, o, none⟩ :: l) s H k := goOp0 e eq h
theorem xYes {sh d o l v H' j want q} (h : YL E T sh l ((d, v) :: s) H' k) (hg : get s j = .bool want := by simp [*]; first | done | fail) (e : xdo E T sh o s H = q := by simp [*]; try exact rfl; first | done | fail) (eq : q = some (v, H') := by exact rfl) : YL E T sh (⟨some d, o, some (j, want)⟩ :: l) s H k := goYes hg e eq h
theorem xNo {sh d o l j want} (h : YL E T sh l ((d, .tup []) :: s) H k) (hg : get s j = .bool (!want) := by simp [*]; first | done | fail) : YL E T sh (⟨some d, o, some (j, want)⟩ :: l) s H k := goNo hg h
theorem xNoU {sh d o l j want cs} (h : YL E T sh l ((d, .tup []) :: s) H k) (hg : get s j = .tup cs := by simp; exact rfl) : YL E T sh (⟨some d, o, some (j, want)⟩ :: l) s H k := goNoU hg h
theorem xIfT {c a b} (h1 : Y E T a s H k) (he : ev s c = .bool true := by simp [*]; first | done | fail) : Y E T (.cond c a b) s H k := goIfT he h1
theorem xIfF {c a b} (h1 : Y E T b s H k) (he : ev s c = .bool false := by simp [*]; first | done | fail) : Y E T (.cond c a b) s H k := goIfF he h1
theorem xIf {c a b p q} {_ : Decidable p} (h1 : p → Y E T a s H k) (h2 : ¬p → Y E T b s H k) (he : ev s c = q := by simp; exact rfl) (eq : q = .bool (decide p) := by with_reducible exact rfl) : Y E T (.cond c a b) s H k := goIf he eq h1 h2
theorem xSplit {sh d o l j want p q} {_ : Decidable p} (h1 : p → YL E T sh (⟨d, o, some (j, want)⟩ :: l) s H k) (h2 : ¬p → YL E T sh (⟨d, o, some (j, want)⟩ :: l) s H k) (hg : get s j = q := by simp; exact rfl) (eq : q = .bool (decide p) := by with_reducible exact rfl) : YL E T sh (⟨d, o, some (j, want)⟩ :: l) s H k := goSplit hg eq h1 h2
theorem xIfQ {c a b t q} (h1 : t = true → Y E T a s H k) (h2 : t = false → Y E T b s H k) (he : ev s c = q := by simp; exact rfl) (eq : q = .bool t := by exact rfl) : Y E T (.cond c a b) s H k := goIfQ he eq h1 h2
theorem xSplitQ {sh d o l j want t q} (h1 : t = true → YL E T sh (⟨d, o, some (j, want)⟩ :: l) s H k) (h2 : t = false → YL E T sh (⟨d, o, some (j, want)⟩ :: l) s H k) (hg : get s j = q := by simp; exact rfl) (eq : q = .bool t := by exact rfl) : YL E T sh (⟨d, o, some (j, want)⟩ :: l) s H k := goSplitQ hg eq h1 h2
theorem xBlkX {id j : Nat} (h : K E T k (.exit j) s H) (hj : (j == id) = false := by rfl) : K E T (.blk id k) (.exit j) s H := goBlkX hj h
end
end Go.Proofs.Ytokadkakmhfdeaa.Pq

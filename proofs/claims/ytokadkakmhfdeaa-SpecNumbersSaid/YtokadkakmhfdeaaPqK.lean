/- The executor over code: operations, regions, loops, calls; that it says what the machine does (regions that draw their order apart). -/
import Derived.Test.YtokadkakmhfdeaaPqJ
import Derived.LoopN
import Derived.Orders
set_option linter.unusedVariables false
set_option linter.unusedSimpArgs false
namespace Go.Proofs.Ytokadkakmhfdeaa.Pq
open Go.RowKit

/-- What a callee does: it leaves the memory alone, or not. -/
inductive FSem where
  | pure (f : List AV → Hp → Option AV)
  | eff (f : List AV → Hp → Option (AV × Hp))
def FSem.run : FSem → List AV → Hp → Option (AV × Hp)
  | .pure f, vs, H => (f vs H).map fun v => (v, H)
  | .eff f, vs, H => f vs H
abbrev Env := Nat → Option FSem

def aput (nt : Nat) : Option Nat → AV → Sl → Sl
  | some d, v, s => if d < nt then (d, v) :: s else s
  | none, _, s => s

/-- Is the operation carried out? (The slot of the operation that guards it.) -/
def wantedA (ops : Array Oper) (o : Oper) (s : Sl) : Option Bool :=
  match o.guard with
  | none => some true
  | some (j, want) =>
    match (ops[j]?).bind (·.dst) with
    | some d => (match get s d with | .bool b => some (b == want) | .tup _ => some false | _ => none)
    | none => none

def xdo (E : Env) (T : Tab) (share : Bool) (op : Op) (s : Sl) (H : Hp) : Option (AV × Hp) :=
  match op with
  | .call ⟨.value f, args, _⟩ =>
    (match ev s f with
    | .func g caps => (E g).bind fun F => F.run (args.toList.map (ev s) ++ caps) H
    | _ => none)
  | op => aop T share s op H

def xop (E : Env) (T : Tab) (share : Bool) (nt : Nat) (ops : Array Oper) (o : Oper) (s : Sl) (H : Hp) : Option (Sl × Hp) :=
  match wantedA ops o s with
  | none => none
  | some false => some (aput nt o.dst (.tup []) s, H)
  | some true => (xdo E T share o.op s H).map fun r => (aput nt o.dst r.1 s, r.2)

def xlist (E : Env) (T : Tab) (share : Bool) (nt : Nat) (ops : Array Oper) : List Oper → Sl → Hp → Option (Sl × Hp)
  | [], s, H => some (s, H)
  | o :: l, s, H =>
    match xop E T share nt ops o s H with
    | some (s', H') => xlist E T share nt ops l s' H'
    | none => none

section
variable {P : Program} {T : Tab} {B0 : Nat} {w0 w : World} {G : Cx} {H : Hp}

/-- Function g of the program does what F says. -/
def Sound (P : Program) (g : Nat) (F : List AV → Hp → Option (AV × Hp)) : Prop :=
  (∃ fn, P.funcs[g]? = some fn ∧ fn.body.isSome = true ∧ (fn.name == "runtime.NumGoroutine") = false) ∧
  ∀ args H r H', F args H = some (r, H') → ∀ B0 w0 G w vargs, St B0 w0 G H w → RVs G args vargs →
    Calls P g vargs.toArray w fun e w' => ∃ v G', e = .returned v ∧ Le G G' ∧ St B0 w0 G' H' w' ∧ RV G' r v
def EOK (P : Program) (E : Env) : Prop := ∀ g F, E g = some F → Sound P g F.run

def RF' (nt : Nat) (G : Cx) (s : Sl) (a : Act) : Prop := RF G s a.tmps ∧ a.tmps.size = nt

theorem RF'.le {nt : Nat} {G G' : Cx} {s a} (h : RF' nt G s a) (hl : Le G G') : RF' nt G' s a := ⟨h.1.le hl, h.2⟩

theorem Act.put_defers (a : Act) (d : Option Nat) (v : Value) : (a.put d v).defers = a.defers := by cases d <;> rfl
theorem Act.put_size (a : Act) (d : Option Nat) (v : Value) : (a.put d v).tmps.size = a.tmps.size := by cases d <;> simp [Act.put]

theorem RF'.put {nt : Nat} {s : Sl} {a : Act} (h : RF' nt G s a) {x : AV} {v : Value} (hv : RV G x v) (d : Option Nat) : RF' nt G (aput nt d x s) (a.put d v) := by
  refine ⟨?_, by rw [Act.put_size]; exact h.2⟩
  cases d with
  | none => exact h.1
  | some d =>
    intro t
    simp only [aput, Act.put]
    by_cases hd : d < nt
    · rw [if_pos hd]
      simp only [get]
      by_cases ht : t = d
      · rw [if_pos ht]
        subst ht
        have : t < a.tmps.size := by rw [h.2]; exact hd
        simp [Array.getD_eq_getD_getElem?, this]
        exact hv
      · rw [if_neg ht]
        have := h.1 t
        simp only [Array.getD_eq_getD_getElem?, Array.getElem?_setIfInBounds, if_neg (fun e => ht e.symm : ¬ d = t)] at this ⊢
        exact this
    · rw [if_neg hd]
      have : a.tmps.setIfInBounds d v = a.tmps := by rw [Array.setIfInBounds_eq_of_size_le (by rw [h.2]; omega)]
      rw [this]
      exact h.1 t

theorem wanted_ok {nt : Nat} {ops : Array Oper} {o : Oper} {s : Sl} {a : Act} (h : RF' nt G s a) {b : Bool} (hw : wantedA ops o s = some b) : Region.wanted o (yielded ops a.tmps) = b := by
  unfold wantedA at hw
  unfold Region.wanted
  cases hg : o.guard with
  | none => rw [hg] at hw; simp at hw; simp [hw]
  | some p =>
    obtain ⟨j, want⟩ := p
    rw [hg] at hw
    simp only at hw ⊢
    cases hd : (ops[j]?).bind (·.dst) with
    | none => rw [hd] at hw; cases hw
    | some d =>
      rw [hd] at hw
      simp only at hw
      split at hw
      · rename_i c hc
        cases hw
        have := h.1 d
        rw [hc] at this
        unfold yielded
        rw [hd]
        simp only [Option.bind_some]
        cases ht : a.tmps[d]? with
        | none => simp [Array.getD_eq_getD_getElem?, ht, undef] at this; cases this
        | some v =>
          simp [Array.getD_eq_getD_getElem?, ht] at this
          cases this
          simp only
          cases c <;> cases want <;> rfl
      · rename_i cs hc
        cases hw
        have := h.1 d
        rw [hc] at this
        unfold yielded
        rw [hd]
        simp only [Option.bind_some]
        cases ht : a.tmps[d]? with
        | none => rfl
        | some v =>
          simp [Array.getD_eq_getD_getElem?, ht] at this
          cases this
          rfl
      · cases hw

/-- One operation, whatever follows. -/
theorem xdo_ok (hT : TOK P T) {E : Env} (hE : EOK P E) {share : Bool} {o : Oper} {s : Sl} {a : Act} (h : St B0 w0 G H w) (hs : RF G s a.tmps) {v' : AV} {H' : Hp} (hx : xdo E T share o.op s H = some (v', H'))
    {K : Act → World → Prop} {Q : Exit → Act → World → Prop} (hk : ∀ v w' G', Le G G' → St B0 w0 G' H' w' → RV G' v' v → K (a.put o.dst v) w') : o.wp P a w K Q := by
  have prim : aop T share s o.op H = some (v', H') → o.wp P a w K Q := by
    intro ha
    obtain ⟨x, w', G', h1, h2, h3, v, h4, h5⟩ := aop_ok hT h hs ha
    unfold Oper.wp
    rw [h1]
    rcases h5 with rfl | ⟨rfl, rfl⟩
    · rw [Oper.upon_value]; exact hk v w' G' h2 h3 h4
    · rw [Oper.upon_skip]; exact hk undef w' G' h2 h3 h4
  unfold xdo at hx
  split at hx
  · rename_i f args tys hop
    split at hx
    · rename_i g caps hf
      obtain ⟨F, hF, hrun⟩ := Option.bind_eq_some_iff.1 hx
      obtain ⟨⟨fn, f1, f2, f3⟩, hsound⟩ := hE g F hF
      have hfv := hs.ev f
      rw [hf] at hfv
      have hargs := hs.evs args.toList
      unfold Oper.wp execOp
      simp only [hop, resolve, Sem.run_bind]
      generalize a.eval f = vf at hfv
      cases hfv with | func _ _ vcaps hcaps =>
      simp only [Deferred.ofValue, Sem.run_pure, Result.andThen_ok, invoke, callFunc, Sem.run_bind, run_program, f1, f3, Bool.false_eq_true, if_false, Sem.run_ite]
      have hbn : ¬ (fn.body.isNone = true) := by cases hb : fn.body <;> simp [hb] at f2 ⊢
      rw [if_neg hbn, Oper.upon_enter]
      have e : #[] ++ args.map a.eval ++ vcaps.toArray = (args.toList.map a.eval ++ vcaps).toArray := by apply Array.ext'; simp
      rw [e]
      refine (hsound _ H v' H' hrun B0 w0 G w _ h (hargs.append hcaps)).mono ?_
      rintro e w' ⟨v, G', rfl, h1, h2, h3⟩
      exact hk v w' G' h1 h2 h3
    · cases hx
  · exact prim hx

theorem xop_ok (hT : TOK P T) {E : Env} (hE : EOK P E) {share : Bool} {nt : Nat} {ops : Array Oper} {o : Oper} {s s' : Sl} {a : Act} (h : St B0 w0 G H w) (hs : RF' nt G s a) {H' : Hp} (hx : xop E T share nt ops o s H = some (s', H'))
    {K : Act → World → Prop} {Q : Exit → Act → World → Prop} (hk : ∀ a' w' G', Le G G' → St B0 w0 G' H' w' → RF' nt G' s' a' → a'.defers = a.defers → K a' w') :
    if Region.wanted o (yielded ops a.tmps) then o.wp P a w K Q ∨ (o.asks P a w ∧ LetsOut Q) else K (a.put o.dst undef) w := by
  unfold xop at hx
  split at hx
  · cases hx
  · rename_i hw
    have := wanted_ok hs hw
    rw [if_neg (by simp [this])]
    cases hx
    exact hk _ _ G (Le.refl G) h (hs.put (v := undef) (.tup [] [] .nil) _) (Act.put_defers _ _ _)
  · rename_i hw
    have := wanted_ok hs hw
    rw [if_pos this]
    obtain ⟨r, hr, he⟩ := Option.map_eq_some_iff.1 hx
    obtain ⟨v', H1⟩ := r
    cases he
    exact .inl (xdo_ok hT hE h hs.1 hr fun v w' G' h1 h2 h3 => hk _ _ G' h1 h2 ((hs.le h1).put h3 _) (Act.put_defers _ _ _))

theorem xlist_ok (hT : TOK P T) {E : Env} (hE : EOK P E) {share : Bool} {nt : Nat} {ops : Array Oper} {Q : Exit → Act → World → Prop} : ∀ (l : List Oper) {s s' : Sl} {a : Act} {G : Cx} {H H' : Hp} {w : World}, St B0 w0 G H w → RF' nt G s a →
    xlist E T share nt ops l s H = some (s', H') → (∀ a' w' G', Le G G' → St B0 w0 G' H' w' → RF' nt G' s' a' → a'.defers = a.defers → Q .normal a' w') → wpList P ops Q l a w := by
  intro l
  induction l with
  | nil =>
    intro s s' a G H H' w h hs hx hk
    simp only [xlist] at hx
    cases hx
    exact wpList_nil (hk _ _ G (Le.refl G) h hs rfl)
  | cons o l ih =>
    intro s s' a G H H' w h hs hx hk
    simp only [xlist] at hx
    split at hx
    · rename_i s1 H1 h1
      unfold wpList
      exact xop_ok hT hE h hs h1 fun a1 w1 G1 g1 g2 g3 g4 => ih g2 g3 hx fun a2 w2 G2 e1 e2 e3 e4 => hk a2 w2 G2 (g1.trans e1) e2 e3 (e4.trans g4)
    · cases hx

end
end Go.Proofs.Ytokadkakmhfdeaa.Pq

/- A region that draws its order: one order, and a look at what may come earlier or later, serve every order. -/
import Derived.Test.YtokadkakmhfdeaaPqK
set_option linter.unusedVariables false
set_option linter.unusedSimpArgs false
namespace Go.Proofs.Ytokadkakmhfdeaa.Pq
open Go.RowKit

def tmpsOf : List Operand → List Nat
  | [] => []
  | .tmp t :: l => t :: tmpsOf l
  | _ :: l => tmpsOf l
/-- The slots that an operation reads. -/
def readsOf (ops : Array Oper) (o : Oper) : List Nat :=
  tmpsOf o.op.operands.toList ++ (match o.guard with
    | some (j, _) => ((ops[j]?).bind (·.dst)).toList
    | none => [])

def xval (E : Env) (T : Tab) (share : Bool) (ops : Array Oper) (o : Oper) (s : Sl) (H : Hp) : Option (AV × Hp) :=
  match wantedA ops o s with
  | none => none
  | some false => some (.tup [], H)
  | some true => xdo E T share o.op s H
theorem xop_val (E : Env) (T : Tab) (share : Bool) (nt : Nat) (ops : Array Oper) (o : Oper) (s : Sl) (H : Hp) :
    xop E T share nt ops o s H = (xval E T share ops o s H).map fun r => (aput nt o.dst r.1 s, r.2) := by
  unfold xop xval
  cases wantedA ops o s with
  | none => rfl
  | some b => cases b <;> rfl

theorem ev_congr {s r : Sl} {l : List Operand} (h : ∀ t ∈ tmpsOf l, get s t = get r t) : ∀ x ∈ l, ev s x = ev r x := by
  induction l with
  | nil => intro x hx; cases hx
  | cons y l ih =>
    intro x hx
    have hl : ∀ t ∈ tmpsOf l, get s t = get r t := fun t ht => h t (by cases y <;> simp [tmpsOf, ht])
    rcases List.mem_cons.1 hx with rfl | hx
    · cases x with
      | tmp t => exact h t (by simp [tmpsOf])
      | const v => rfl
      | global g => rfl
      | func f => rfl
    · exact ih hl x hx

theorem map_ev_congr {s r : Sl} {l : List Operand} (h : ∀ x ∈ l, ev s x = ev r x) : l.map (ev s) = l.map (ev r) := List.map_congr_left h

theorem xdo_congr {E : Env} {T : Tab} {share : Bool} {op : Op} {s r : Sl} {H : Hp} (h : ∀ x ∈ op.operands.toList, ev s x = ev r x) : xdo E T share op s H = xdo E T share op r H := by
  cases op with
  | build t ps =>
    have : ps.toList.map (fun p : Nat × Operand => (p.1, ev s p.2)) = ps.toList.map (fun p => (p.1, ev r p.2)) :=
      List.map_congr_left fun p hp => by rw [h p.2 (by simp only [Op.operands]; exact List.mem_map.2 ⟨p, hp, rfl⟩)]
    simp only [xdo, aop, this]
  | buildSlice t n ps =>
    have : ps.toList.map (fun p : Nat × Operand => (p.1, ev s p.2)) = ps.toList.map (fun p => (p.1, ev r p.2)) :=
      List.map_congr_left fun p hp => by rw [h p.2 (by simp only [Op.operands]; exact List.mem_map.2 ⟨p, hp, rfl⟩)]
    simp only [xdo, aop, this]
  | makeFunc fn first caps =>
    have : caps.toList.map (ev s) = caps.toList.map (ev r) := List.map_congr_left fun x hx => h x (by simp [Op.operands, hx])
    simp only [xdo, aop, this]
  | slice t x lo hi mx =>
    have h1 : ev s x = ev r x := h x (by simp [Op.operands])
    have h2 : lo.map (ev s) = lo.map (ev r) := by cases lo with | none => rfl | some y => simp [h y (by simp [Op.operands])]
    have h3 : hi.map (ev s) = hi.map (ev r) := by cases hi with | none => rfl | some y => simp [h y (by simp [Op.operands])]
    have h4 : mx.map (ev s) = mx.map (ev r) := by cases mx with | none => rfl | some y => simp [h y (by simp [Op.operands])]
    simp only [xdo, aop, h1, h2, h3, h4]
  | call c =>
    obtain ⟨callee, args, tys⟩ := c
    have hargs : args.toList.map (ev s) = args.toList.map (ev r) := List.map_congr_left fun x hx => h x (by simp [Op.operands, Call.operands, hx])
    cases callee with
    | value f =>
      have hf : ev s f = ev r f := h f (by simp [Op.operands, Call.operands])
      simp only [xdo, hf, hargs]
    | invoke f m => simp only [xdo, aop]
    | builtin b =>
      have h' : ∀ x ∈ args.toList, ev s x = ev r x := fun x hx => h x (by simp [Op.operands, Call.operands, hx])
      obtain ⟨args⟩ := args
      simp only at h'
      simp only [xdo, aop]
      split <;> first
        | rfl
        | (rw [h' _ (by simp)]; done)
        | (rw [h' _ (List.mem_cons_self ..), h' _ (List.mem_cons_of_mem _ (List.mem_cons_self ..))]; done)
        | simp only [h' _ (List.mem_cons_self ..), h' _ (List.mem_cons_of_mem _ (List.mem_cons_self ..))]
  | _ =>
    simp only [Op.operands, List.mem_cons, List.not_mem_nil, or_false, forall_eq_or_imp, forall_eq] at h
    try simp only [xdo, aop, h]

/-! ### the trace of the text's order -/

/-- The states ahead of each operation, and the last. -/
def xtr (E : Env) (T : Tab) (share : Bool) (nt : Nat) (ops : Array Oper) : List Oper → Sl → Hp → Option (List (Sl × Hp))
  | [], s, H => some [(s, H)]
  | o :: l, s, H =>
    match xop E T share nt ops o s H with
    | some (s', H') => (xtr E T share nt ops l s' H').map ((s, H) :: ·)
    | none => none

/-- An operation that leaves the memory alone, whatever it is asked. -/
def quietOp (E : Env) (o : Oper) : Bool :=
  match o.op with
  | .alloc _ | .box .. | .buildSlice .. | .store .. | .makeSlice .. => false
  | .call ⟨.builtin b, _, _⟩ => (match b with | .len | .min | .max => true | _ => false)
  | .call ⟨.value (.func g), _, _⟩ => (match E g with | some (.pure _) => true | _ => false)
  | .call _ => false
  | _ => true

theorem map_same {α : Type} {x : Option α} {f : α → AV} {H H' : Hp} {v : AV} (h : (x.map fun a => (f a, H)) = some (v, H')) : H' = H := by
  cases x with
  | none => cases h
  | some a => cases h; rfl
theorem bind_same {x : Option TI} {f : TI → Option (AV × Hp)} {H H' : Hp} {v : AV} (h : x.bind f = some (v, H')) (hf : ∀ i, f i = some (v, H') → H' = H) : H' = H := by
  cases x with
  | none => cases h
  | some a => exact hf a h
theorem bind_same2 {x : Option (Nat × Nat)} {f : Nat × Nat → Option (AV × Hp)} {H H' : Hp} {v : AV} (h : x.bind f = some (v, H')) (hf : ∀ i, f i = some (v, H') → H' = H) : H' = H := by
  cases x with
  | none => cases h
  | some a => exact hf a h

theorem quietOp_same {E : Env} {T : Tab} {share : Bool} {ops : Array Oper} {o : Oper} {s : Sl} {H H' : Hp} {v : AV} (hq : quietOp E o = true) (h : xval E T share ops o s H = some (v, H')) : H' = H := by
  unfold xval at h
  split at h
  · cases h
  · cases h; rfl
  · unfold quietOp at hq
    cases hop : o.op <;> simp only [hop] at hq h <;> first | (cases hq; done) | skip
    case call c =>
      obtain ⟨callee, args, tys⟩ := c
      cases callee <;> (try simp only at hq) <;> (try simp only at h) <;> first | (cases hq; done) | skip
      · rename_i f
        cases f <;> (try simp only at hq) <;> first | (cases hq; done) | skip
        rename_i g
        simp only [xdo, ev] at h
        obtain ⟨F, hF, hr⟩ := Option.bind_eq_some_iff.1 h
        rw [hF] at hq
        cases F with
        | pure f =>
          simp only [FSem.run] at hr
          obtain ⟨u, hu, he⟩ := Option.map_eq_some_iff.1 hr
          cases he; rfl
        | eff f => simp at hq
      · rename_i b
        simp only [xdo, aop] at h
        cases b <;> (try simp only at hq) <;> first | (cases hq; done) | skip
        all_goals
          repeat' first
            | contradiction
            | (cases h; done)
            | (cases h; rfl)
            | split at h
    all_goals
      simp only [xdo, aop] at h
      first
        | exact map_same h
        | (cases h; done)
        | (cases h; rfl)
        | (repeat' first
            | split at h
            | exact map_same h
            | (refine bind_same h fun i h => ?_)
            | (refine bind_same2 h fun i h => ?_)
            | (cases h; done)
            | (cases h; rfl))

end Go.Proofs.Ytokadkakmhfdeaa.Pq

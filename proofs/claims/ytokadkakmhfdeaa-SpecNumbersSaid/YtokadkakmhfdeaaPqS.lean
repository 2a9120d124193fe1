/- The executor's steps, each as a rule to rewrite with; slices of numbers. -/
import Derived.Test.YtokadkakmhfdeaaPqR
set_option linter.unusedVariables false
set_option linter.unusedSimpArgs false
namespace Go.Proofs.Ytokadkakmhfdeaa.Pq
open Go.RowKit

def w (x : Int) : Int := IntKind.i64.wrap x

def apick (c a b : AV) : Option AV := match c with | .bool t => some (if t = true then a else b) | _ => none
def aunop (op : UnOp) (x : AV) : Option AV := match op, x with
  | .not, .bool b => some (.bool !b)
  | .neg, .int k n => some (.int k (k.wrap (0 - n)))
  | _, _ => none
def aidxS (es : Nat) (x i : AV) : Option AV := match x, i with
  | .sl b v o n es' _, .int _ j => if es = es' ∧ 0 ≤ j ∧ j < n then some (.ptr b v (o + j.toNat * es')) else none
  | _, _ => none
def aidxA (n es : Nat) (x i : AV) : Option AV := match x, i with
  | .ptr b v o, .int _ j => if 0 ≤ j ∧ j < n then some (.ptr b v (o + j.toNat * es)) else none
  | _, _ => none
def aidx (T : Tab) (t : Nat) (x i : AV) : Option AV := match Tab.d T t with
  | .slice e => (T e).bind fun ie => aidxS ie.size x i
  | .array n e => (T e).bind fun ie => aidxA n ie.size x i
  | _ => none
def alenS (x : AV) : Option AV := match x with
  | .nilS => some (.int .i64 0)
  | .mtS => some (.int .i64 0)
  | .sl _ _ _ n _ _ => some (.int .i64 n)
  | _ => none
def alen (T : Tab) (t : Nat) (x : AV) : Option AV := match Tab.d T t with
  | .slice _ => alenS x
  | .str => (match x with | .str z => some (.int .i64 z.size) | _ => none)
  | .array n _ => some (.int .i64 n)
  | _ => none
def amin (x y : AV) : Option AV := match x, y with | .int k a, .int k' b => if k = k' then some (.int k (if a ≤ b then a else b)) else none | _, _ => none
def amax (x y : AV) : Option AV := match x, y with | .int k a, .int k' b => if k = k' then some (.int k (if b ≤ a then a else b)) else none | _, _ => none
def aext (x : AV) (i : Nat) : Option AV := match x with | .tup vs => vs[i]? | _ => none
def afaddr (T : Tab) (fs : List (Nat × Nat)) (x : AV) (f : Nat) : Option AV := match x with
  | .ptr b v o => (fs[f]?).bind fun p => (T p.2).bind fun i => if i.size = 0 then none else some (.ptr b v (o + p.1))
  | _ => none
def afaddr' (T : Tab) (t : Nat) (x : AV) (f : Nat) : Option AV := match Tab.d T t with | .struct fs => afaddr T fs x f | _ => none
def amake (T : Tab) (t : Nat) (l c : AV) (H : Hp) : Option (AV × Hp) := match Tab.d T t with
  | .slice e => (T e).bind fun ie => (match l, c with
    | .int _ n, .int _ m => if n = m ∧ 0 ≤ n ∧ ie.bytes * n ≤ 281474976710656 ∧ n ≤ 281474976710656 then some (.sl H.bs.length H.c 0 n.toNat ie.size true, H.new (rep n.toNat ie.zero)) else none
    | _, _ => none)
  | _ => none
def aapp (T : Tab) (share : Bool) (t u : Nat) (x y : AV) (H : Hp) : Option (AV × Hp) := match Tab.d T t with
  | .slice e => (match Tab.d T u with | .slice _ => (T e).bind fun ie => aappend share ie.size ie.bytes x y H | _ => none)
  | _ => none
def aslc (T : Tab) (t : Nat) (x : AV) (lo hi mx : Option AV) : Option AV := match Tab.d T t with
  | .slice e => (T e).bind fun ie => aslice ie.size x lo hi mx
  | _ => none
def acall (E : Env) (f : AV) (as : List AV) (H : Hp) : Option (AV × Hp) := match f with
  | .func g caps => (E g).bind fun F => F.run (as ++ caps) H
  | _ => none
def anil (x : AV) : Option AV := match x with | .ptr b v o => some (.ptr b v o) | _ => none

section
variable {E : Env} {T : Tab} {sh : Bool} {s : Sl} {H : Hp}
@[simp] theorem xdo_move (x) : xdo E T sh (.move x) s H = some (ev s x, H) := rfl
@[simp] theorem xdo_assign (x) : xdo E T sh (.assign x) s H = some (ev s x, H) := rfl
@[simp] theorem xdo_pick (c a b) : xdo E T sh (.pick c a b) s H = (apick (ev s c) (ev s a) (ev s b)).map fun v => (v, H) := by
  unfold xdo aop apick; simp only; cases ev s c <;> rfl
@[simp] theorem xdo_bin (op t x y k) : xdo E T sh (.binOp op t x y k) s H = (abin T op t (ev s x) (ev s y)).map fun v => (v, H) := rfl
@[simp] theorem xdo_un (op t x) : xdo E T sh (.unOp op t x) s H = (aunop op (ev s x)).map fun v => (v, H) := by
  unfold xdo aop aunop; simp only; cases op <;> cases ev s x <;> rfl
@[simp] theorem xdo_idx (t x i) : xdo E T sh (.indexAddr t x i) s H = (aidx T t (ev s x) (ev s i)).map fun v => (v, H) := by
  simp only [xdo, aop, aidx]
  cases Tab.d T t with
  | slice e =>
    cases hT : T e with
    | none => cases ev s x <;> cases ev s i <;> simp [hT]
    | some ie => cases ev s x <;> cases ev s i <;> first | (simp [hT, aidxS]; done) | (simp only [hT, Option.bind_some, aidxS]; split <;> rfl)
  | array n e =>
    cases hT : T e with
    | none => cases ev s x <;> cases ev s i <;> simp [hT]
    | some ie => cases ev s x <;> cases ev s i <;> first | (simp [hT, aidxA]; done) | (simp only [hT, Option.bind_some, aidxA]; split <;> rfl)
  | _ => rfl
@[simp] theorem xdo_load (t a) : xdo E T sh (.load t a) s H = (aload T t (ev s a) H).map fun v => (v, H) := rfl
@[simp] theorem xdo_store (t a x) : xdo E T sh (.store t a x) s H = (astore T t (ev s a) (ev s x) H).map fun H' => (.bad, H') := rfl
@[simp] theorem xdo_len (x t) : xdo E T sh (.call ⟨.builtin .len, #[x], #[t]⟩) s H = (alen T t (ev s x)).map fun v => (v, H) := by
  simp only [xdo, aop, alen, alenS]; cases Tab.d T t <;> cases ev s x <;> rfl
@[simp] theorem xdo_min (x y ts) : xdo E T sh (.call ⟨.builtin .min, #[x, y], ts⟩) s H = (amin (ev s x) (ev s y)).map fun v => (v, H) := by
  simp only [xdo, aop, amin]; cases ev s x <;> cases ev s y <;> first | rfl | (simp only; split <;> rfl)
@[simp] theorem xdo_max (x y ts) : xdo E T sh (.call ⟨.builtin .max, #[x, y], ts⟩) s H = (amax (ev s x) (ev s y)).map fun v => (v, H) := by
  simp only [xdo, aop, amax]; cases ev s x <;> cases ev s y <;> first | rfl | (simp only; split <;> rfl)
@[simp] theorem xdo_ext (x i) : xdo E T sh (.extract x i) s H = (aext (ev s x) i).map fun v => (v, H) := by
  simp only [xdo, aop, aext]; cases ev s x <;> rfl
@[simp] theorem xdo_faddr (t x f) : xdo E T sh (.fieldAddr t x f) s H = (afaddr' T t (ev s x) f).map fun v => (v, H) := by
  simp only [xdo, aop, afaddr', afaddr]
  cases Tab.d T t <;> cases ev s x <;> try rfl
  rename_i fs b v o
  simp only
  cases fs[f]? with
  | none => rfl
  | some p =>
    simp only [Option.bind_some]
    cases T p.2 with
    | none => rfl
    | some i => simp only [Option.bind_some]; split <;> rfl
@[simp] theorem xdo_make (t l c) : xdo E T sh (.makeSlice t l c) s H = amake T t (ev s l) (ev s c) H := by
  simp only [xdo, aop, amake]; cases Tab.d T t <;> try rfl
  rename_i e
  cases hT : T e <;> cases ev s l <;> cases ev s c <;> simp [hT]
@[simp] theorem xdo_append (x y t u) : xdo E T sh (.call ⟨.builtin .append, #[x, y], #[t, u]⟩) s H = aapp T sh t u (ev s x) (ev s y) H := by
  simp only [xdo, aop, aapp]; cases Tab.d T t <;> try rfl
  cases Tab.d T u <;> rfl
@[simp] theorem xdo_call (f as ts) : xdo E T sh (.call ⟨.value f, as, ts⟩) s H = acall E (ev s f) (as.toList.map (ev s)) H := by
  unfold xdo acall; simp only
  cases ev s f <;> rfl
@[simp] theorem xdo_nil (x) : xdo E T sh (.nilCheck x) s H = (anil (ev s x)).map fun v => (v, H) := by
  simp only [xdo, aop, anil]; cases ev s x <;> rfl
end

/-! ### arithmetic -/
@[simp] theorem abin_add (T : Tab) (t a b) : abin T .add t (.int .i64 a) (.int .i64 b) = some (.int .i64 (w (a + b))) := rfl
@[simp] theorem abin_sub (T : Tab) (t a b) : abin T .sub t (.int .i64 a) (.int .i64 b) = some (.int .i64 (w (a - b))) := rfl
@[simp] theorem abin_mul (T : Tab) (t a b) : abin T .mul t (.int .i64 a) (.int .i64 b) = some (.int .i64 (w (a * b))) := rfl
@[simp] theorem abin_quo (T : Tab) (t a b) : abin T .quo t (.int .i64 a) (.int .i64 b) = if b = 0 then none else some (.int .i64 (w (a.tdiv b))) := rfl
@[simp] theorem abin_rem (T : Tab) (t a b) : abin T .rem t (.int .i64 a) (.int .i64 b) = if b = 0 then none else some (.int .i64 (a.tmod b)) := rfl
@[simp] theorem abin_eql (T : Tab) (t k a b) : abin T .eql t (.int k a) (.int k b) = some (.bool (decide (a = b))) := by
  unfold abin aint acmp; simp only; rw [if_pos trivial]; congr 2
@[simp] theorem abin_neq (T : Tab) (t k a b) : abin T .neq t (.int k a) (.int k b) = some (.bool (!decide (a = b))) := by
  unfold abin aint acmp; simp only; rw [if_pos trivial]; congr 2
@[simp] theorem abin_lss (T : Tab) (t k a b) : abin T .lss t (.int k a) (.int k b) = some (.bool (decide (a < b))) := by unfold abin; simp only; rw [if_pos trivial]; rfl
@[simp] theorem abin_leq (T : Tab) (t k a b) : abin T .leq t (.int k a) (.int k b) = some (.bool (decide (a ≤ b))) := by unfold abin; simp only; rw [if_pos trivial]; rfl
@[simp] theorem abin_gtr (T : Tab) (t k a b) : abin T .gtr t (.int k a) (.int k b) = some (.bool (decide (b < a))) := by unfold abin; simp only; rw [if_pos trivial]; rfl
@[simp] theorem abin_geq (T : Tab) (t k a b) : abin T .geq t (.int k a) (.int k b) = some (.bool (decide (b ≤ a))) := by unfold abin; simp only; rw [if_pos trivial]; rfl
@[simp] theorem apick_bool (t : Bool) (a b : AV) : apick (.bool t) a b = some (if t = true then a else b) := rfl
@[simp] theorem aunop_not (b : Bool) : aunop .not (.bool b) = some (.bool !b) := rfl
@[simp] theorem aunop_neg (n : Int) : aunop .neg (.int .i64 n) = some (.int .i64 (w (0 - n))) := rfl

@[simp] theorem get_cons (j : Nat) (v : AV) (l : Sl) (i : Nat) : get ((j, v) :: l) i = if i = j then v else get l i := rfl
@[simp] theorem ev_tmp (s : Sl) (t : Nat) : ev s (.tmp t) = get s t := rfl
@[simp] theorem ev_const (s : Sl) (v : Value) : ev s (.const v) = ofConst v := rfl
@[simp] theorem ev_func (s : Sl) (f : FuncId) : ev s (.func f) = .func f [] := rfl
@[simp] theorem ofConst_int (k n) : ofConst (.int k n) = .int k n := rfl
@[simp] theorem ofConst_bool (b) : ofConst (.bool b) = .bool b := rfl
@[simp] theorem ofConst_nilS : ofConst (.slice none 0 0) = .nilS := rfl
@[simp] theorem ofConst_nilP : ofConst (.pointer none) = .nilP := rfl
@[simp] theorem cput_some (d : Nat) (v s) : cput (some d) v s = (d, v) :: s := rfl
@[simp] theorem cput_none (v s) : cput none v s = s := rfl
@[simp] theorem cut_nil (s : Sl) : cutSl [] s = [] := rfl
@[simp] theorem cut_cons (j : Nat) (l : List Nat) (s : Sl) : cutSl (j :: l) s = (j, get s j) :: cutSl l s := rfl

section
variable {E : Env} {T : Tab} {s : Sl} {H : Hp}
theorem XG_none (yes no : Prop) : XG none s yes no = yes := rfl
theorem XG_some (j : Nat) (want : Bool) (yes no : Prop) {b : Bool} (h : get s j = .bool b) : XG (some (j, want)) s yes no = ((b = want → yes) ∧ (b ≠ want → no)) := by
  simp only [XG, h]
theorem XL_nil (sh R) : XL E T sh [] s H R = R s H := rfl
theorem XL_cons (sh : Bool) (d : Option Nat) (o : Op) (g : Option (Nat × Bool)) (l R) : XL E T sh (⟨d, o, g⟩ :: l) s H R = XG g s (opt (xdo E T sh o s H) fun r => XL E T sh l (cput d r.1 s) r.2 R) (XL E T sh l (cput d (.tup []) s) H R) := rfl
/-- A branch. -/
def XB (v : AV) (y n : Prop) : Prop := match v with | .bool t => (t = true → y) ∧ (t = false → n) | _ => False
theorem XB_bool (t : Bool) (y n : Prop) : XB (.bool t) y n = ((t = true → y) ∧ (t = false → n)) := rfl
theorem X_skip (Q) : X E T .skip s H Q = Q .norm s H := rfl
theorem X_reg (sh l Q) : X E T (.reg sh l) s H Q = XL E T sh l s H fun s' H' => Q .norm s' H' := rfl
def seqK (E : Env) (T : Tab) (b : Cc) (Q : Ex → Sl → Hp → Prop) : Ex → Sl → Hp → Prop := fun x s' H' => match x with | .norm => X E T b s' H' Q | x => Q x s' H'
theorem X_seq (a b Q) : X E T (.seq a b) s H Q = X E T a s H (seqK E T b Q) := rfl
theorem seqK_norm (b Q) : seqK E T b Q .norm s H = X E T b s H Q := rfl
theorem seqK_ret (b Q) : seqK E T b Q .ret s H = Q .ret s H := rfl
theorem seqK_exit (b Q i) : seqK E T b Q (.exit i) s H = Q (.exit i) s H := rfl
def blkK (id : Nat) (Q : Ex → Sl → Hp → Prop) : Ex → Sl → Hp → Prop := fun x s' H' => match x with | .exit j => Q (if j = id then .norm else .exit j) s' H' | x => Q x s' H'
theorem X_block (id b Q) : X E T (.block id b) s H Q = X E T b s H (blkK id Q) := rfl
theorem blkK_norm (id Q) : blkK id Q .norm s H = Q .norm s H := rfl
theorem blkK_ret (id Q) : blkK id Q .ret s H = Q .ret s H := rfl
theorem blkK_exit (id j : Nat) (Q) : blkK id Q (.exit j) s H = Q (if j = id then .norm else .exit j) s H := rfl
theorem X_cond (c a b Q) : X E T (.cond c a b) s H Q = XB (ev s c) (X E T a s H Q) (X E T b s H Q) := rfl
theorem X_exit (i Q) : X E T (.exit i) s H Q = Q (.exit i) s H := rfl
theorem X_ret (Q) : X E T .ret s H Q = Q .ret s H := rfl
def loopK (I : Nat → Sl → Hp → Prop) (m : Nat) (Q : Ex → Sl → Hp → Prop) : Ex → Sl → Hp → Prop := fun x s' H' => match x with | .norm => ∃ m', m' < m ∧ I m' s' H' | x => Q x s' H'
theorem loopK_norm (I m Q) : loopK I m Q .norm s H = ∃ m', m' < m ∧ I m' s H := rfl
theorem loopK_ret (I m Q) : loopK I m Q .ret s H = Q .ret s H := rfl
theorem loopK_exit (I m Q i) : loopK I m Q (.exit i) s H = Q (.exit i) s H := rfl
theorem X_loop {lv b Q} (I : Nat → Sl → Hp → Prop) (m : Nat) (h0 : I m s H) (h : ∀ m s1 H1, I m s1 H1 → X E T b (cutSl lv s1) H1 (loopK I m Q)) : X E T (.loop lv false b) s H Q :=
  ⟨I, ⟨m, h0⟩, h⟩
theorem X_loop_drop {lv b Q} (I : Nat → Sl → Hp → Prop) (m : Nat) (h0 : I m s H) (h : ∀ m s1 H1, I m s1 H1 → X E T b (cutSl lv s1) (H1.take H.bs.length) (loopK I m Q)) : X E T (.loop lv true b) s H Q :=
  ⟨I, ⟨m, h0⟩, h⟩
end

/-! ### slices of numbers -/
def toInt : AV → Option Int | .int .i64 n => some n | _ => none
def toInts : List AV → Option (List Int)
  | [] => some []
  | a :: l => match toInt a, toInts l with | some n, some m => some (n :: m) | _, _ => none
theorem toInts_some : ∀ {l : List AV} {m : List Int}, toInts l = some m → l = m.map (.int .i64) := by
  intro l
  induction l with
  | nil => intro m h; cases h; rfl
  | cons a l ih =>
    intro m h
    simp only [toInts] at h
    split at h
    · rename_i n m' h1 h2
      cases h
      have : a = .int .i64 n := by
        unfold toInt at h1; split at h1
        · cases h1; rfl
        · cases h1
      rw [this, ih h2]; rfl
    · cases h
theorem toInts_map (m : List Int) : toInts (m.map (.int .i64)) = some m := by
  induction m with
  | nil => rfl
  | cons n m ih => simp [toInts, toInt, ih]
/-- The numbers of a slice. -/
def ints (H : Hp) (v : AV) : Option (List Int) :=
  match v with
  | .nilS => some []
  | .mtS => some []
  | .sl b ver off n es _ => if es = 1 ∧ n ≤ 1152921504606846976 then (match H.at b ver with
    | some k => if off + n ≤ k.cells.length then toInts ((k.cells.drop off).take n) else none
    | none => none) else none
  | _ => none

theorem ints_cells {H : Hp} {v : AV} {l : List Int} (h : ints H v = some l) : slCells H v = some (l.length, l.map (.int .i64)) := by
  unfold ints at h
  split at h
  · cases h; rfl
  · cases h; rfl
  · rename_i b ver off n es full
    split at h
    · rename_i he
      obtain ⟨rfl, _⟩ := he
      split at h
      · rename_i k hk
        split at h
        · rename_i hle
          have h2 := toInts_some h
          have hlen : l.length = n := by
            have := congrArg List.length h2
            simp at this; omega
          simp only [slCells, hk, Nat.mul_one]
          rw [if_pos hle, hlen, h2]
        · cases h
      · cases h
    · cases h
  · cases h

theorem ints_len {H : Hp} {v : AV} {l : List Int} (h : ints H v = some l) : l.length ≤ 1152921504606846976 := by
  have hc := ints_cells h
  unfold ints at h
  split at h
  · cases h; simp
  · cases h; simp
  · split at h
    · rename_i he
      unfold slCells at hc
      simp only at hc
      split at hc
      · split at hc
        · simp only [Option.some.injEq, Prod.mk.injEq] at hc; omega
        · cases hc
      · cases hc
    · cases h
  · cases h
/-- The place of a number. -/
def pAt (v : AV) (j : Int) : AV := match v with | .sl b ver off _ es _ => .ptr b ver (off + j.toNat * es) | _ => .bad

theorem alenS_ints {H : Hp} {v : AV} {l : List Int} (h : ints H v = some l) : alenS v = some (.int .i64 l.length) := by
  have := ints_cells h
  unfold slCells at this
  split at this
  · simp only [Option.some.injEq, Prod.mk.injEq] at this; simp only [alenS]; rw [← this.1]; rfl
  · simp only [Option.some.injEq, Prod.mk.injEq] at this; simp only [alenS]; rw [← this.1]; rfl
  · split at this
    · split at this
      · simp only [Option.some.injEq, Prod.mk.injEq] at this; simp only [alenS]; rw [this.1]
      · cases this
    · cases this
  · cases this
theorem aidxS_ints {H : Hp} {v : AV} {l : List Int} (h : ints H v = some l) (k : IntKind) (j : Int) : aidxS 1 v (.int k j) = if 0 ≤ j ∧ j < l.length then some (pAt v j) else none := by
  have hc := ints_cells h
  unfold ints at h
  split at h
  · cases h; simp only [aidxS]; rw [if_neg (by simp)]
  · cases h; simp only [aidxS]; rw [if_neg (by simp)]
  · rename_i b ver off n es full
    split at h
    · rename_i he
      obtain ⟨rfl, _⟩ := he
      have hn : n = l.length := by
        unfold slCells at hc; simp only at hc
        split at hc
        · split at hc
          · simp only [Option.some.injEq, Prod.mk.injEq] at hc; exact hc.1
          · cases hc
        · cases hc
      subst hn
      simp [aidxS, pAt]
    · cases h
  · cases h
theorem aload_ints {T : Tab} {i : TI} {t : Nat} (ht : T t = some i) (hi : i.d = .int .i64) {H : Hp} {v : AV} {l : List Int} (h : ints H v = some l) (j : Int) (h0 : 0 ≤ j) (hj : j < l.length) : aload T t (pAt v j) H = (l[j.toNat]?).map (.int .i64) := by
  unfold ints at h
  split at h
  · cases h; simp [aload, ht, pAt]
  · cases h; simp [aload, ht, pAt]
  · rename_i b ver off n es full
    split at h
    · rename_i he
      obtain ⟨rfl, _⟩ := he
      split at h
      · rename_i k hk
        split at h
        · rename_i hle
          have h2 := toInts_some h
          have hlen : l.length = n := by
            have := congrArg List.length h2
            simp at this; omega
          simp only [aload, ht, pAt, hk, hi]
          have : k.cells[off + j.toNat * 1]? = ((k.cells.drop off).take n)[j.toNat]? := by
            rw [List.getElem?_take, List.getElem?_drop, Nat.mul_one]
            split
            · rfl
            · omega
          rw [this, h2, List.getElem?_map]
        · cases h
      · cases h
    · cases h
  · cases h

/-- The beginning of a slice. -/
def preS (v : AV) (j : Int) : AV := match v with | .sl b ver off n es full => .sl b ver off j.toNat es (full && decide (j = n)) | v => v
theorem aslice_pre {H : Hp} {v : AV} {l : List Int} (h : ints H v = some l) (k : IntKind) (j : Int) : aslice 1 v none (some (.int k j)) none = if 0 ≤ j ∧ j ≤ l.length then some (preS v j) else none := by
  have hl := alenS_ints h
  unfold ints at h
  split at h
  · cases h
    simp only [aslice, bnd, preS, List.length_nil]
    by_cases hj : j = 0
    · subst hj; simp
    · rw [if_neg (by simp [hj]), if_neg (by simp; omega)]
  · cases h
    simp only [aslice, bnd, preS, List.length_nil]
    by_cases hj : j = 0
    · subst hj; simp
    · rw [if_neg (by simp [hj]), if_neg (by simp; omega)]
  · rename_i b ver off n es full
    split at h
    · rename_i he
      obtain ⟨rfl, _⟩ := he
      have hn : (n : Int) = l.length := by simpa [alenS] using hl
      simp [aslice, bnd, preS, hn]
    · cases h
  · cases h
theorem ints_pre {H : Hp} {v : AV} {l : List Int} (h : ints H v = some l) (j : Int) (h0 : 0 ≤ j) (hj : j ≤ l.length) : ints H (preS v j) = some (l.take j.toNat) := by
  have hl := alenS_ints h
  unfold ints at h
  split at h
  · cases h; simp [preS, ints]
  · cases h; simp [preS, ints]
  · rename_i b ver off n es full
    have hn : (n : Int) = l.length := by simpa [alenS] using hl
    split at h
    · rename_i he
      split at h
      · rename_i k hk
        split at h
        · rename_i hle
          have h2 := toInts_some h
          have he' : es = 1 ∧ j.toNat ≤ 1152921504606846976 := ⟨he.1, by omega⟩
          simp only [preS, ints, he', and_self, if_true, hk]
          rw [if_pos (by omega)]
          have : (k.cells.drop off).take j.toNat = ((k.cells.drop off).take n).take j.toNat := by
            rw [List.take_take, Nat.min_eq_left (by omega)]
          rw [this, h2, ← List.map_take, toInts_map]
        · cases h
      · cases h
    · cases h
  · cases h
def nth (l : List Int) (j : Int) : Int := l.getD j.toNat 0
theorem aload_nth {T : Tab} {i : TI} {t : Nat} (ht : T t = some i) (hi : i.d = .int .i64) {H : Hp} {v : AV} {l : List Int} (h : ints H v = some l) (j : Int) (h0 : 0 ≤ j) (hj : j < l.length) : aload T t (pAt v j) H = some (.int .i64 (nth l j)) := by
  rw [aload_ints ht hi h j h0 hj]
  have : j.toNat < l.length := by omega
  simp [nth, List.getD_eq_getElem?_getD, this]
theorem drop_nth (l : List Int) (i : Nat) (h : i < l.length) : l.drop i = nth l i :: l.drop (i + 1) := by
  rw [List.drop_eq_getElem_cons h]
  simp [nth, List.getD_eq_getElem?_getD, h]
theorem w_id {x : Int} (h : -9223372036854775808 ≤ x ∧ x < 9223372036854775808) : w x = x := by
  have : IntKind.i64.wrap x = x := by
    simp [IntKind.wrap, IntKind.bits, IntKind.signed]
    omega
  exact this
end Go.Proofs.Ytokadkakmhfdeaa.Pq

/- How a walk goes: one rule for each step. -/
import Derived.Test.YtokadkakmhfdeaaPqS
set_option linter.unusedVariables false
namespace Go.Proofs.Ytokadkakmhfdeaa.Pq
open Go.RowKit

/-- A fact that a walk's steps shall not look at. -/
structure Hide (p : Prop) : Prop where out : p
/-- What comes behind. -/
inductive Ct where
  | fin (Q : Ex → Sl → Hp → Prop)
  | seq (b : Cc) (k : Ct)
  | blk (id : Nat) (k : Ct)
  | loop (I : Nat → Sl → Hp → Prop) (m : Nat) (k : Ct)
def Ct.den (E : Env) (T : Tab) : Ct → Ex → Sl → Hp → Prop
  | .fin Q => Q
  | .seq b k => seqK E T b (k.den E T)
  | .blk id k => blkK id (k.den E T)
  | .loop I m k => loopK I m (k.den E T)
structure Y (E : Env) (T : Tab) (c : Cc) (s : Sl) (H : Hp) (k : Ct) : Prop where out : X E T c s H (k.den E T)
structure YL (E : Env) (T : Tab) (sh : Bool) (l : List Co) (s : Sl) (H : Hp) (k : Ct) : Prop where out : XL E T sh l s H fun s' H' => k.den E T .norm s' H'
structure K (E : Env) (T : Tab) (k : Ct) (x : Ex) (s : Sl) (H : Hp) : Prop where out : k.den E T x s H

section
variable {E : Env} {T : Tab} {s : Sl} {H : Hp} {k : Ct}
theorem go {c} {Q : Ex → Sl → Hp → Prop} (h : Y E T c s H (.fin Q)) : X E T c s H Q := h.out
theorem goFin {x} {Q : Ex → Sl → Hp → Prop} (h : Q x s H) : K E T (.fin Q) x s H := ⟨h⟩
theorem goSeq {a b} (h : Y E T a s H (.seq b k)) : Y E T (.seq a b) s H k := ⟨h.out⟩
theorem goReg {sh l} (h : YL E T sh l s H k) : Y E T (.reg sh l) s H k := ⟨h.out⟩
theorem goSkip (h : K E T k .norm s H) : Y E T .skip s H k := ⟨h.out⟩
theorem goBlock {id b} (h : Y E T b s H (.blk id k)) : Y E T (.block id b) s H k := ⟨h.out⟩
theorem goExit {i} (h : K E T k (.exit i) s H) : Y E T (.exit i) s H k := ⟨h.out⟩
theorem goRet (h : K E T k .ret s H) : Y E T .ret s H k := ⟨h.out⟩
theorem goSeqN {b} (h : Y E T b s H k) : K E T (.seq b k) .norm s H := ⟨h.out⟩
theorem goSeqR {b} (h : K E T k .ret s H) : K E T (.seq b k) .ret s H := ⟨h.out⟩
theorem goSeqE {b i} (h : K E T k (.exit i) s H) : K E T (.seq b k) (.exit i) s H := ⟨h.out⟩
theorem goBlkN {id} (h : K E T k .norm s H) : K E T (.blk id k) .norm s H := ⟨h.out⟩
theorem goBlkR {id} (h : K E T k .ret s H) : K E T (.blk id k) .ret s H := ⟨h.out⟩
theorem goBlkE {id} (h : K E T k .norm s H) : K E T (.blk id k) (.exit id) s H := ⟨by simp only [Ct.den, blkK, if_true]; exact h.out⟩
theorem goBlkX {id j : Nat} (hj : (j == id) = false) (h : K E T k (.exit j) s H) : K E T (.blk id k) (.exit j) s H := ⟨by
  simp only [Ct.den, blkK]; rw [if_neg (by simpa using hj)]; exact h.out⟩
theorem goLoopN {I : Nat → Sl → Hp → Prop} {m : Nat} (m' : Nat) (hm : m' < m) (h : I m' s H) : K E T (.loop I m k) .norm s H := ⟨⟨m', hm, h⟩⟩
theorem goLoopR {I m} (h : K E T k .ret s H) : K E T (.loop I m k) .ret s H := ⟨h.out⟩
theorem goLoopE {I m i} (h : K E T k (.exit i) s H) : K E T (.loop I m k) (.exit i) s H := ⟨h.out⟩
theorem goLoop {lv b} (I : Nat → Sl → Hp → Prop) (m : Nat) (h0 : I m s H) (h : ∀ m s1 H1, I m s1 H1 → Y E T b (cutSl lv s1) H1 (.loop I m k)) : Y E T (.loop lv false b) s H k :=
  ⟨X_loop I m h0 fun m s1 H1 hi => (h m s1 H1 hi).out⟩
theorem goLoopD {lv b} (I : Nat → Sl → Hp → Prop) (m : Nat) (h0 : I m s H) (h : ∀ m s1 H1, I m s1 H1 → Y E T b (cutSl lv s1) (H1.take H.bs.length) (.loop I m k)) : Y E T (.loop lv true b) s H k :=
  ⟨X_loop_drop I m h0 fun m s1 H1 hi => (h m s1 H1 hi).out⟩
theorem goIfB {c a b t} (he : ev s c = .bool t) (h1 : t = true → Y E T a s H k) (h2 : t = false → Y E T b s H k) : Y E T (.cond c a b) s H k := ⟨by
  rw [X_cond, he, XB_bool]; exact ⟨fun h => (h1 h).out, fun h => (h2 h).out⟩⟩
theorem goIfQ {c a b t q} (he : ev s c = q) (eq : q = .bool t) (h1 : t = true → Y E T a s H k) (h2 : t = false → Y E T b s H k) : Y E T (.cond c a b) s H k := goIfB (he.trans eq) h1 h2
theorem goIf {c a b p q} {_ : Decidable p} (he : ev s c = q) (eq : q = .bool (decide p)) (h1 : p → Y E T a s H k) (h2 : ¬p → Y E T b s H k) : Y E T (.cond c a b) s H k :=
  goIfB (he.trans eq) (fun h => h1 (of_decide_eq_true h)) (fun h => h2 (of_decide_eq_false h))
theorem goIfN {c a b p q} {_ : Decidable p} (he : ev s c = q) (eq : q = .bool (!decide p)) (h1 : ¬p → Y E T a s H k) (h2 : p → Y E T b s H k) : Y E T (.cond c a b) s H k :=
  goIfB (he.trans eq) (fun h => h1 (by simpa using h)) (fun h => h2 (by simpa using h))
theorem goIfT {c a b} (he : ev s c = .bool true) (h1 : Y E T a s H k) : Y E T (.cond c a b) s H k := goIfB he (fun _ => h1) (fun h => by cases h)
theorem goIfF {c a b} (he : ev s c = .bool false) (h1 : Y E T b s H k) : Y E T (.cond c a b) s H k := goIfB he (fun h => by cases h) (fun _ => h1)
theorem goNil {sh} (h : K E T k .norm s H) : YL E T sh [] s H k := ⟨h.out⟩
theorem goOp {sh d o l v H' q} (e : xdo E T sh o s H = q) (eq : q = some (v, H')) (h : YL E T sh l ((d, v) :: s) H' k) : YL E T sh (⟨some d, o, none⟩ :: l) s H k := ⟨by
  rw [XL_cons, XG_none, e, eq, opt_some]; exact h.out⟩
theorem goOp0 {sh o l v H' q} (e : xdo E T sh o s H = q) (eq : q = some (v, H')) (h : YL E T sh l s H' k) : YL E T sh (⟨none, o, none⟩ :: l) s H k := ⟨by
  rw [XL_cons, XG_none, e, eq, opt_some]; exact h.out⟩
theorem goYes {sh d o l v H' j want q} (hg : get s j = .bool want) (e : xdo E T sh o s H = q) (eq : q = some (v, H')) (h : YL E T sh l ((d, v) :: s) H' k) : YL E T sh (⟨some d, o, some (j, want)⟩ :: l) s H k := ⟨by
  rw [XL_cons, XG_some j want _ _ hg, e, eq, opt_some]; exact ⟨fun _ => h.out, fun hh => absurd rfl hh⟩⟩
theorem goNo {sh d o l j want} (hg : get s j = .bool (!want)) (h : YL E T sh l ((d, .tup []) :: s) H k) : YL E T sh (⟨some d, o, some (j, want)⟩ :: l) s H k := ⟨by
  rw [XL_cons, XG_some j want _ _ hg]; exact ⟨fun hh => (by cases want <;> cases hh), fun _ => h.out⟩⟩
theorem goNoU {sh d o l j want cs} (hg : get s j = .tup cs) (h : YL E T sh l ((d, .tup []) :: s) H k) : YL E T sh (⟨some d, o, some (j, want)⟩ :: l) s H k := ⟨by
  rw [XL_cons]; simp only [XG, hg]; exact h.out⟩
theorem goSplitQ {sh d o l j want t q} (hg : get s j = q) (eq : q = .bool t) (h1 : t = true → YL E T sh (⟨d, o, some (j, want)⟩ :: l) s H k) (h2 : t = false → YL E T sh (⟨d, o, some (j, want)⟩ :: l) s H k) : YL E T sh (⟨d, o, some (j, want)⟩ :: l) s H k := by
  cases t
  · exact h2 rfl
  · exact h1 rfl
theorem goSplitN {sh d o l j want p q} {_ : Decidable p} (hg : get s j = q) (eq : q = .bool (!decide p)) (h1 : ¬p → YL E T sh (⟨d, o, some (j, want)⟩ :: l) s H k) (h2 : p → YL E T sh (⟨d, o, some (j, want)⟩ :: l) s H k) : YL E T sh (⟨d, o, some (j, want)⟩ :: l) s H k := by
  by_cases hp : p
  · exact h2 hp
  · exact h1 hp
theorem goSplit {sh d o l j want p q} {_ : Decidable p} (hg : get s j = q) (eq : q = .bool (decide p)) (h1 : p → YL E T sh (⟨d, o, some (j, want)⟩ :: l) s H k) (h2 : ¬p → YL E T sh (⟨d, o, some (j, want)⟩ :: l) s H k) : YL E T sh (⟨d, o, some (j, want)⟩ :: l) s H k := by
  by_cases hp : p
  · exact h1 hp
  · exact h2 hp
/-- The end of a walk that hands back nothing new. -/
theorem goEnd {H0 : Hp} {x : Ex} {rs : List ResultVar} {q : Option (List AV)} {vs : List AV} {r : AV} (hw : Wf H0) (hp : Pre H0 H) (hx : x = .norm ∨ x = .ret) (e : xres T s H rs = q) (eq : q = some vs) (hr : (xret vs).rel H0.bs.length H0.c [] = r) :
    K E T (.fin fun x s' H2 => (x = .norm ∨ x = .ret) ∧ ∃ vs js, xres T s' H2 rs = some vs ∧ Can H0 H2 H0 (xret vs) r js) x s H := ⟨⟨hx, vs, [], e.trans eq, Can.pure hw hp hr⟩⟩
@[simp] theorem xres_nil (T : Tab) (s H) : xres T s H [] = some [] := rfl
@[simp] theorem xres_tmp (T : Tab) (s H t l) : xres T s H (.tmp t :: l) = (xres T s H l).map (get s t :: ·) := rfl
@[simp] theorem xret_one (v : AV) : xret [v] = v := rfl
@[simp] theorem xret_two (a b : AV) (l) : xret (a :: b :: l) = .tup (a :: b :: l) := rfl
@[simp] theorem rel_int (L c js k n) : (AV.int k n).rel L c js = .int k n := rfl
@[simp] theorem rel_bool (L c js b) : (AV.bool b).rel L c js = .bool b := rfl
@[simp] theorem rel_nilS (L c js) : AV.nilS.rel L c js = .nilS := rfl
@[simp] theorem rel_tup (L c js l) : (AV.tup l).rel L c js = .tup (rels L c js l) := rfl
@[simp] theorem rels_nil (L c js) : rels L c js [] = [] := rfl
@[simp] theorem rels_cons (L c js a l) : rels L c js (a :: l) = a.rel L c js :: rels L c js l := rfl
@[simp] theorem amin_int (a b : Int) : amin (.int .i64 a) (.int .i64 b) = some (.int .i64 (if a ≤ b then a else b)) := rfl
@[simp] theorem amax_int (a b : Int) : amax (.int .i64 a) (.int .i64 b) = some (.int .i64 (if b ≤ a then a else b)) := rfl
@[simp] theorem aext_tup (l : List AV) (i : Nat) : aext (.tup l) i = l[i]? := rfl
@[simp] theorem acall_func (E : Env) (g : Nat) (caps as : List AV) (H : Hp) : acall E (.func g caps) as H = (E g).bind fun F => F.run (as ++ caps) H := rfl
@[simp] theorem envL_cons (p : Nat × FSem) (l : List (Nat × FSem)) (g : Nat) : envL (p :: l) g = if g = p.1 then some p.2 else envL l g := rfl
@[simp] theorem run_pure (f : List AV → Hp → Option AV) (as : List AV) (H : Hp) : (FSem.pure f).run as H = (f as H).map fun v => (v, H) := rfl
@[simp] theorem run_eff (f : List AV → Hp → Option (AV × Hp)) (as : List AV) (H : Hp) : (FSem.eff f).run as H = f as H := rfl
/-- A pure function's proof begins so. -/
theorem pureAt {f : List AV → Hp → Option AV} {args : List AV} {H H' : Hp} {r : AV} (h : (FSem.pure f).run args H = some (r, H')) : H' = H ∧ f args H = some r := by
  obtain ⟨v, hv, he⟩ := Option.map_eq_some_iff.1 h
  cases he; exact ⟨rfl, hv⟩
end
end Go.Proofs.Ytokadkakmhfdeaa.Pq

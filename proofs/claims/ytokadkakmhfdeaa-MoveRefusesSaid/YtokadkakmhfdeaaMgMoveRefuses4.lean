/- What the proof of a statement of this seat rests on, part 4: PqTs, PqWM, PqDr, PqWN, PqX3, PqC8, PqC9, PqWO, PqWP, PqWQ, PqWR, PqWS, PqWT, PqTt, PqX6, PqWU, PqX7, PqTl, PqC5b, PqWFb, PqCB, PqX8, PqX9, PqWZ, PqSl, PqZr, PqZs, PqZt, PqCF, PqCG, PqMA, PqCA, PqWV, PqWW, PqWX, PqCC, PqY2, PqX4, PqX5, PqXA, PqXB, PqWY, PqY1, PqY3, PqY4, PqZu. -/
import Derived.Test.YtokadkakmhfdeaaMgMoveRefuses3
set_option linter.unusedVariables false
set_option linter.unusedSimpArgs false
set_option linter.unusedSectionVars false
namespace Go.Proofs.Ytokadkakmhfdeaa.Pq
open Go.RowKit
/- Structs and lists that a function makes, for tensors. -/
section
variable {E : Env} {sh : Bool} {s : Sl} {H : Hp}
@[simp] theorem xdo_alloc40 : xdo E T sh (.alloc 40) s H = some (.ptr H.bs.length H.c 0, H.new [.nilS, .nilS]) := by simp [xdo, aop, T40]
def bld40 (x y : AV) : Option AV := (afill (fun j => ([(0, 22), (1, 38)][j]?).bind fun f => (T f.2).map fun i => (f.1, i.size)) [.nilS, .nilS] [(0, x), (1, y)]).map .agg
@[simp] theorem xdo_bld40 (x y : Operand) : xdo E T sh (.build 40 #[(0, x), (1, y)]) s H = (bld40 (ev s x) (ev s y)).map fun v => (v, H) := by
  simp only [xdo, aop, T40, bld40, Option.map_map]
  rfl
@[simp] theorem xdo_bld40_0 : xdo E T sh (.build 40 #[]) s H = some (.agg [.nilS, .nilS], H) := by
  simp [xdo, aop, T40, afill]
def bld40a (x : AV) : Option AV := (afill (fun j => ([(0, 22), (1, 38)][j]?).bind fun f => (T f.2).map fun i => (f.1, i.size)) [.nilS, .nilS] [(0, x)]).map .agg
theorem bld40a_one {x : AV} (hx : x.one = true) : bld40a x = some (.agg [x, .nilS]) := by
  have hx' : x.cells = [x] := by cases x <;> first | rfl | cases hx
  simp [bld40a, afill, T22, T38, hx', hx, setAll]
@[simp] theorem xdo_bld40a (x : Operand) : xdo E T sh (.build 40 #[(0, x)]) s H = (bld40a (ev s x)).map fun v => (v, H) := by
  simp only [xdo, aop, T40, bld40a, Option.map_map]
  rfl
@[simp] theorem xdo_bs1_38 (x : Operand) : xdo E T sh (.buildSlice 38 1 #[(0, x)]) s H = abs1 (ev s x) H := by
  simp [xdo, aop, D38, T2, rep, abs1]
end
@[simp] theorem xres_cell (T : Tab) (s : Sl) (H : Hp) (a t : Nat) (l : List ResultVar) : xres T s H (.cell a t :: l) = (aload T t (get s a) H).bind fun v => (xres T s H l).map (v :: ·) := by
  simp only [xres]; cases aload T t (get s a) H <;> rfl
theorem aapp38 (sh : Bool) (x y : AV) (H : Hp) : aapp T sh 38 38 x y H = aapp T sh 22 22 x y H := by simp [aapp, D38, T2, D22, T3]
theorem st40 {H : Hp} {b ver : Nat} {x y x' y' : AV} (h : H.at b ver = some ⟨ver, [x', y'], true, true⟩) (hx : x.one = true) (hy : y.one = true) : astore T 40 (.ptr b ver 0) (.agg [x, y]) H = some (H.put b ⟨ver, [x, y], true, true⟩) := by
  simp only [astore, T40, h]
  rw [if_pos (by simp [AV.cells, hx, hy])]
  simp [setAll, AV.cells]
theorem st38_1 {H : Hp} {b ver : Nat} {x y y' : AV} (h : H.at b ver = some ⟨ver, [x, y'], true, true⟩) (hy : y.one = true) : astore T 38 (.ptr b ver 1) y H = some (H.put b ⟨ver, [x, y], true, true⟩) := by
  have hy' : y.cells = [y] := by cases y <;> first | rfl | cases hy
  simp only [astore, T38, h]
  rw [if_pos (by simp [hy', hy])]
  simp [setAll, hy']
/-- A block of one's own is written. -/
theorem OwnC.wr {H0 H : Hp} {b ver : Nat} {cs : List AV} (hw0 : Wf H0) (he : Ext H0 H) (h : OwnC H0 H b ver cs) (cs' : List AV) : OwnC H0 (H.put b ⟨ver, cs', true, true⟩) b ver cs' ∧ Ext H0 (H.put b ⟨ver, cs', true, true⟩) := by
  obtain ⟨g1, g2⟩ := Hp.at_some h.at'
  have hb := (List.getElem?_eq_some_iff.1 g1).1
  refine ⟨⟨h.new, by simp [Hp.at, Hp.put, hb]⟩, ?_, ?_, he.c⟩
  · intro i k hi
    have h1 := he.pre i k hi
    show (H.bs.set b _)[i]? = some k
    by_cases hib : b = i
    · subst hib
      rw [g1] at h1
      cases h1
      exact absurd (hw0 b _ hi) (Nat.not_lt.2 h.new)
    · rw [List.getElem?_set_ne hib]; exact h1
  · intro i k hi
    simp only [Hp.put] at hi ⊢
    by_cases hib : b = i
    · subst hib
      simp [hb] at hi
      subst hi
      exact (he.wf b _ g1 : ver < H.c)
    · rw [List.getElem?_set_ne hib] at hi
      exact he.wf i k hi
theorem OwnC.ext {H0 H H' : Hp} {b ver : Nat} {cs : List AV} (hp : Pre H H') (h : OwnC H0 H b ver cs) : OwnC H0 H' b ver cs := ⟨h.new, hp.at h.at'⟩
theorem OwnC.lt {H0 H : Hp} {b ver : Nat} {cs : List AV} (h : OwnC H0 H b ver cs) : b < H.bs.length := (List.getElem?_eq_some_iff.1 (Hp.at_some h.at').1).1
/-- What one block says is not said of another. -/
theorem Hp.at_ne {H : Hp} {b b' ver ver' : Nat} {k k' : Blk} (h : H.at b ver = some k) (h' : H.at b' ver' = some k') (hv : ver ≠ ver') : b ≠ b' := by
  intro e
  subst e
  obtain ⟨g1, g2⟩ := Hp.at_some h
  obtain ⟨g3, g4⟩ := Hp.at_some h'
  rw [g1] at g3
  cases g3
  exact hv (g2.symm.trans g4)
mutual
/-- A value's blocks are not touched where another block is written. -/
theorem Rep.put {c : Nat} {H : Hp} {b ver : Nat} {k0 k1 : Blk} (hk : H.at b ver = some k0) : ∀ (t : Tr) {v : AV} {bs : List (Nat × Nat)}, (∀ p ∈ bs, p.2 ≠ ver) → Rep c H t v bs → Rep c (H.put b k1) t v bs
  | .at a, v, bs, hn, h => by simpa only [Rep] using h
  | .sl n es full cs, v, bs, hn, h => by
    simp only [Rep] at h ⊢
    obtain ⟨b', ver', vs, bs', e1, e2, e3, e4, rfl⟩ := h
    refine ⟨b', ver', vs, bs', e1, e2, ?_, Reps.put hk cs (fun p hp => hn p (by simp [hp])) e4, rfl⟩
    rw [at_put (Hp.at_ne e3 hk (hn (b', ver') (by simp)))]; exact e3
  | .bx cs, v, bs, hn, h => by
    simp only [Rep] at h ⊢
    obtain ⟨b', ver', vs, bs', e1, e2, e3, e4, rfl⟩ := h
    refine ⟨b', ver', vs, bs', e1, e2, ?_, Reps.put hk cs (fun p hp => hn p (by simp [hp])) e4, rfl⟩
    rw [at_put (Hp.at_ne e3 hk (hn (b', ver') (by simp)))]; exact e3
  | .agg cs, v, bs, hn, h => by
    simp only [Rep] at h ⊢
    obtain ⟨vs, e1, e4⟩ := h
    exact ⟨vs, e1, Reps.put hk cs hn e4⟩
  | .tup cs, v, bs, hn, h => by
    simp only [Rep] at h ⊢
    obtain ⟨vs, e1, e4⟩ := h
    exact ⟨vs, e1, Reps.put hk cs hn e4⟩
theorem Reps.put {c : Nat} {H : Hp} {b ver : Nat} {k0 k1 : Blk} (hk : H.at b ver = some k0) : ∀ (l : List Tr) {vs : List AV} {bs : List (Nat × Nat)}, (∀ p ∈ bs, p.2 ≠ ver) → Reps c H l vs bs → Reps c (H.put b k1) l vs bs
  | [], vs, bs, hn, h => by simpa only [Reps] using h
  | t :: l, vs, bs, hn, h => by
    simp only [Reps] at h ⊢
    obtain ⟨v, vs', b1, b2, e1, e2, e3, rfl⟩ := h
    exact ⟨v, vs', b1, b2, e1, Rep.put hk t (fun p hp => hn p (by simp [hp])) e2, Reps.put hk l (fun p hp => hn p (by simp [hp])) e3, rfl⟩
end
/-- A copied list. -/
def trC (l : List Int) : Tr := if l = [] then trF [] else trS l
theorem okT_C (c : Nat) (l : List Int) : okT c (trC l) = true := by
  unfold trC; split
  · exact okT_F c []
  · exact okT_S c l
theorem repL_ints {c : Nat} {H : Hp} {l : List Int} {v : AV} {bs : List (Nat × Nat)} (hl : l.length ≤ 1152921504606846976) (h : Rep c H (trS l) v bs ∨ Rep c H (trF l) v bs ∨ Rep c H (trC l) v bs) : ints H v = some l := by
  have hS : ∀ {l : List Int}, l.length ≤ 1152921504606846976 → Rep c H (trS l) v bs → ints H v = some l := by
    intro l hl h
    rcases rep_S.1 h with ⟨rfl, rfl, _⟩ | ⟨b, ver, rfl, h2, h3, h4, _⟩
    · rfl
    · exact ints_of_own (H0 := ⟨[], c⟩) (.inr ⟨b, ver, rfl, h2, h3, h4⟩) hl
  have hF : ∀ {l : List Int}, l.length ≤ 1152921504606846976 → Rep c H (trF l) v bs → ints H v = some l := by
    intro l hl h
    obtain ⟨b, ver, rfl, h2, h3, _⟩ := rep_F.1 h
    exact ints_of_ownF (H0 := ⟨[], c⟩) ⟨b, ver, rfl, h2, h3⟩ hl
  rcases h with h | h | h
  · exact hS hl h
  · exact hF hl h
  · unfold trC at h
    split at h
    · rename_i e; subst e; exact hF hl h
    · exact hS hl h
/-- A list is copied behind an empty one. -/
theorem clone_own {H0 H : Hp} {y : AV} {m : List Int} (he : Ext H0 H) (hm : ints H y = some m) (hl : m.length < 1099511627776) :
    ∃ v' H' bs, aapp T false 22 22 (.sl H.bs.length H.c 0 0 1 true) y (H.new []) = some (v', H') ∧ Rep H.c H' (trC m) v' bs ∧ Fresh H.c H'.c bs ∧ Ext H H' := by
  have he1 : Ext H (H.new []) := (Ext.refl he.wf).new _
  have hm1 := ints_ext he1.pre hm
  have hx := ints_cells hm1
  have hat := new_at H []
  by_cases h0 : m = []
  · subst h0
    refine ⟨.sl H.bs.length H.c 0 0 1 true, H.new [], [(H.bs.length, H.c)], ?_, ?_, Fresh.one (Nat.le_refl _) (Nat.lt_succ_self _), he1⟩
    · simp only [aapp, D22, T3, Option.bind_some, aappend, hx]
      simp
    · unfold trC
      rw [if_pos rfl]
      exact rep_F.2 ⟨_, _, rfl, Nat.le_refl _, hat, rfl⟩
  · have hne : m.length ≠ 0 := by simpa using h0
    refine ⟨.sl (H.new []).bs.length (H.new []).c 0 m.length 1 false, (H.new []).new (m.map (.int .i64)), [((H.new []).bs.length, (H.new []).c)], ?_, ?_, ?_, he1.new _⟩
    · simp only [aapp, D22, T3, Option.bind_some, aappend, hx, hat]
      simp [hne, maxBytes, h0]
      omega
    · unfold trC
      rw [if_neg h0]
      exact rep_S.2 (.inr ⟨_, _, rfl, he1.c, h0, new_at _ _, rfl⟩)
    · exact Fresh.one he1.c (Nat.lt_succ_self _)
theorem rep_agg2 {c : Nat} {H : Hp} {a b : Tr} {v : AV} {bs : List (Nat × Nat)} : Rep c H (.agg [a, b]) v bs ↔ ∃ x y b1 b2, v = .agg [x, y] ∧ Rep c H a x b1 ∧ Rep c H b y b2 ∧ bs = b1 ++ b2 := by
  simp only [Rep, Reps]
  constructor
  · rintro ⟨vs, rfl, v, vs', b1, b2, rfl, h1, ⟨w, vs'', b3, b4, rfl, h2, ⟨rfl, rfl⟩, rfl⟩, rfl⟩
    exact ⟨v, w, b1, b3, rfl, h1, h2, by simp⟩
  · rintro ⟨x, y, b1, b2, rfl, h1, h2, rfl⟩
    exact ⟨_, rfl, x, [y], b1, b2, rfl, h1, ⟨y, [], b2, [], rfl, h2, ⟨rfl, rfl⟩, by simp⟩, rfl⟩
/-- Lists of numbers of any make. -/
def isL (t : Tr) (l : List Int) : Prop := t = trS l ∨ t = trF l ∨ t = trC l
theorem isL.ok {t : Tr} {l : List Int} (h : isL t l) (c : Nat) : okT c t = true := by
  rcases h with rfl | rfl | rfl
  · exact okT_S c l
  · exact okT_F c l
  · exact okT_C c l
theorem isL.ints {t : Tr} {l : List Int} (h : isL t l) {c : Nat} {H : Hp} {v : AV} {bs : List (Nat × Nat)} (hl : l.length ≤ 1152921504606846976) (hr : Rep c H t v bs) : Pq.ints H v = some l := by
  rcases h with rfl | rfl | rfl
  · exact repL_ints hl (.inl hr)
  · exact repL_ints hl (.inr (.inl hr))
  · exact repL_ints hl (.inr (.inr hr))
/-- A tensor that was handed back. -/
theorem mk_tens {H : Hp} (hw : Wf H) {a b : Tr} {s d : List Int} (ha : isL a s) (hb : isL b d) (hs : s.length ≤ 1152921504606846976) (hd : d.length ≤ 1152921504606846976) :
    ∃ bs, Rep H.c (mk (.agg [a, b]) H).2 (.agg [a, b]) (mk (.agg [a, b]) H).1 bs ∧ Fresh H.c (mk (.agg [a, b]) H).2.c bs ∧ Ext H (mk (.agg [a, b]) H).2 ∧ tens (mk (.agg [a, b]) H).2 (mk (.agg [a, b]) H).1 = some (s, d) := by
  obtain ⟨bs, h1, h2, h3⟩ := mk_rep (.agg [a, b]) (c0 := 0) hw (Nat.zero_le _) (by simp [okT, okTs, ha.ok, hb.ok])
  refine ⟨bs, h1, h2, h3, ?_⟩
  obtain ⟨x, y, b1, b2, e, r1, r2, _⟩ := rep_agg2.1 h1
  rw [e]
  exact tens_of (ha.ints hs r1) (hb.ints hd r2)
/-! ### what stays -/
def Keeps (H H' : Hp) (b ver : Nat) : Prop := ∀ k, H.at b ver = some k → H'.at b ver = some k
theorem Keeps.pre {H H' : Hp} (h : Pre H H') (b ver : Nat) : Keeps H H' b ver := fun _ hk => h.at hk
theorem Keeps.trans {A B C : Hp} {b ver : Nat} (h : Keeps A B b ver) (k : Keeps B C b ver) : Keeps A C b ver := fun x hx => k x (h x hx)
theorem Keeps.put {H : Hp} {b ver b' ver' : Nat} {k k' : Blk} (hk : H.at b ver = some k) (hv : ver' ≠ ver) : Keeps H (H.put b k') b' ver' := by
  intro x hx
  rw [at_put (Hp.at_ne hx hk hv)]; exact hx
mutual
theorem Rep.keep {c : Nat} {H H' : Hp} : ∀ (t : Tr) {v : AV} {bs : List (Nat × Nat)}, (∀ p ∈ bs, Keeps H H' p.1 p.2) → Rep c H t v bs → Rep c H' t v bs
  | .at a, v, bs, hn, h => by simpa only [Rep] using h
  | .sl n es full cs, v, bs, hn, h => by
    simp only [Rep] at h ⊢
    obtain ⟨b', ver', vs, bs', e1, e2, e3, e4, rfl⟩ := h
    exact ⟨b', ver', vs, bs', e1, e2, hn (b', ver') (by simp) _ e3, Reps.keep cs (fun p hp => hn p (by simp [hp])) e4, rfl⟩
  | .bx cs, v, bs, hn, h => by
    simp only [Rep] at h ⊢
    obtain ⟨b', ver', vs, bs', e1, e2, e3, e4, rfl⟩ := h
    exact ⟨b', ver', vs, bs', e1, e2, hn (b', ver') (by simp) _ e3, Reps.keep cs (fun p hp => hn p (by simp [hp])) e4, rfl⟩
  | .agg cs, v, bs, hn, h => by
    simp only [Rep] at h ⊢
    obtain ⟨vs, e1, e4⟩ := h
    exact ⟨vs, e1, Reps.keep cs hn e4⟩
  | .tup cs, v, bs, hn, h => by
    simp only [Rep] at h ⊢
    obtain ⟨vs, e1, e4⟩ := h
    exact ⟨vs, e1, Reps.keep cs hn e4⟩
theorem Reps.keep {c : Nat} {H H' : Hp} : ∀ (l : List Tr) {vs : List AV} {bs : List (Nat × Nat)}, (∀ p ∈ bs, Keeps H H' p.1 p.2) → Reps c H l vs bs → Reps c H' l vs bs
  | [], vs, bs, hn, h => by simpa only [Reps] using h
  | t :: l, vs, bs, hn, h => by
    simp only [Reps] at h ⊢
    obtain ⟨v, vs', b1, b2, e1, e2, e3, rfl⟩ := h
    exact ⟨v, vs', b1, b2, e1, Rep.keep t (fun p hp => hn p (by simp [hp])) e2, Reps.keep l (fun p hp => hn p (by simp [hp])) e3, rfl⟩
end
theorem OwnC.keep {H0 H H' : Hp} {b ver : Nat} {cs : List AV} (hk : Keeps H H' b ver) (h : OwnC H0 H b ver cs) : OwnC H0 H' b ver cs := ⟨h.new, hk _ h.at'⟩
theorem Own.keep {H0 H H' : Hp} {v : AV} {l : List Int} (hk : ∀ b ver, H0.c ≤ ver → Keeps H H' b ver) (h : Own H0 H v l) : Own H0 H' v l := by
  rcases h with h | ⟨b, ver, h1, h2, h3, h4⟩
  · exact .inl h
  · exact .inr ⟨b, ver, h1, h2, h3, hk b ver h2 _ h4⟩
theorem OwnF.keep {H0 H H' : Hp} {v : AV} {l : List Int} (hk : ∀ b ver, H0.c ≤ ver → Keeps H H' b ver) (h : OwnF H0 H v l) : OwnF H0 H' v l := by
  obtain ⟨b, ver, h1, h2, h4⟩ := h
  exact ⟨b, ver, h1, h2, hk b ver h2 _ h4⟩
/-- The memory as it was, at a later time. -/
def Hp.till (H : Hp) (c : Nat) : Hp := ⟨H.bs, c⟩
theorem Wf.till {H : Hp} (h : Wf H) {c : Nat} (hc : H.c ≤ c) : Wf (H.till c) := fun b k hk => Nat.lt_of_lt_of_le (h b k hk) hc
theorem Ext.till {H0 H : Hp} (h : Ext H0 H) {c : Nat} (hc : c ≤ H.c) : Ext (H0.till c) H := ⟨h.pre, h.wf, hc⟩
theorem Ext.untill {H0 H : Hp} {c : Nat} (h : Ext (H0.till c) H) (hc : H0.c ≤ c) : Ext H0 H := ⟨h.pre, h.wf, Nat.le_trans hc h.c⟩
/-- As app_own; and what is older stays. -/
theorem app_own2 {H0 H : Hp} {v : AV} {l : List Int} (hw0 : Wf H0) (he : Ext H0 H) (h : Own H0 H v l) (hl : l.length < 1099511627776) (n : Int) :
    ∃ v' H', aapp T false 22 22 v (.sl H.bs.length H.c 0 1 1 true) (H.new [.int .i64 n]) = some (v', H') ∧ Own H0 H' v' (l ++ [n]) ∧ Ext H0 H' ∧ ∀ b ver, ver < H0.c → Keeps H H' b ver := by
  have hx : slCells (H.new [.int .i64 n]) (.sl H.bs.length H.c 0 1 1 true) = some (1, [.int .i64 n]) := by
    simp [slCells, new_at]
  have he1 : Ext H0 (H.new [.int .i64 n]) := he.new _
  rcases h with ⟨rfl, rfl⟩ | ⟨b, ver, rfl, hv, hne, hk⟩
  · refine ⟨.sl (H.new [.int .i64 n]).bs.length (H.new [.int .i64 n]).c 0 1 1 false, (H.new [.int .i64 n]).new [.int .i64 n], ?_, ?_, he1.new _, ?_⟩
    · simp only [aapp, D22, T3, Option.bind_some, aappend, hx]
      simp [maxBytes]
    · exact .inr ⟨_, _, rfl, he1.c, by simp, new_at _ _⟩
    · intro b' ver' _ k hk
      exact at_new (at_new hk _) _
  · have hk' := at_new hk [.int .i64 n]
    obtain ⟨g1, g2⟩ := Hp.at_some hk'
    have hb := (List.getElem?_eq_some_iff.1 g1).1
    refine ⟨.sl b (H.new [.int .i64 n]).c 0 (l.length + 1) 1 false, ⟨(H.new [.int .i64 n]).bs.set b ⟨(H.new [.int .i64 n]).c, l.map (.int .i64) ++ [.int .i64 n], true, true⟩, (H.new [.int .i64 n]).c + 1⟩, ?_, ?_, ?_, ?_⟩
    · simp only [aapp, D22, T3, Option.bind_some, aappend, hx, hk']
      simp [maxBytes]
      omega
    · refine .inr ⟨b, _, by simp, he1.c, by simp, ?_⟩
      simp [Hp.at, hb]
    · refine ⟨?_, ?_, Nat.le_succ_of_le he1.c⟩
      · intro i k hi
        have h1 := he1.pre i k hi
        show ((H.new [.int .i64 n]).bs.set b _)[i]? = some k
        by_cases hib : b = i
        · subst hib
          rw [g1] at h1
          cases h1
          exact absurd (hw0 b _ hi) (Nat.not_lt.2 hv)
        · rw [List.getElem?_set_ne hib]; exact h1
      · intro i k hi
        by_cases hib : b = i
        · subst hib
          simp [hb] at hi
          subst hi
          exact Nat.lt_succ_self _
        · simp only [List.getElem?_set_ne hib] at hi
          exact Nat.lt_succ_of_lt (he1.wf i k hi)
    · intro b' ver' hlt k hk2
      have hk3 := at_new hk2 [.int .i64 n]
      have hbb : b' ≠ b := Hp.at_ne hk3 hk' (by omega)
      have : (⟨(H.new [.int .i64 n]).bs.set b ⟨(H.new [.int .i64 n]).c, l.map (.int .i64) ++ [.int .i64 n], true, true⟩, (H.new [.int .i64 n]).c + 1⟩ : Hp).at b' ver' = (H.new [.int .i64 n]).at b' ver' := by
        simp only [Hp.at]; rw [List.getElem?_set_ne (fun e => hbb e.symm)]
      rw [this]; exact hk3
theorem Own.repS {H0 H : Hp} {v : AV} {l : List Int} (hw : Wf H) (h : Own H0 H v l) : ∃ bs, Rep H0.c H (trS l) v bs ∧ Fresh H0.c H.c bs := by
  rcases h with ⟨rfl, rfl⟩ | ⟨b, ver, rfl, h2, h3, h4⟩
  · exact ⟨[], rep_S.2 (.inl ⟨rfl, rfl, rfl⟩), Fresh.nil _ _⟩
  · exact ⟨[(b, ver)], rep_S.2 (.inr ⟨b, ver, rfl, h2, h3, h4, rfl⟩), Fresh.one h2 (at_lt hw h4)⟩
theorem OwnF.repF {H0 H : Hp} {v : AV} {l : List Int} (hw : Wf H) (h : OwnF H0 H v l) : ∃ bs, Rep H0.c H (trF l) v bs ∧ Fresh H0.c H.c bs := by
  obtain ⟨b, ver, rfl, h2, h4⟩ := h
  exact ⟨[(b, ver)], rep_F.2 ⟨b, ver, rfl, h2, h4, rfl⟩, Fresh.one h2 (at_lt hw h4)⟩
theorem own_one {H0 H : Hp} {v : AV} {l : List Int} (h : Own H0 H v l) : v.one = true := by
  rcases h with ⟨_, rfl⟩ | ⟨b, ver, rfl, _⟩ <;> rfl
/- Walks: copied lists, filled tensors. -/
def F70 (args : List AV) (H : Hp) : Option (AV × Hp) := match args with
  | [v, .int .i64 n] => (ints H v).bind fun s => if s.length < 1099511627776 then some (mk (.agg [trC s, trS (List.replicate (sizeOf s).toNat n)]) H) else none
  | _ => none
theorem prodW_rng : ∀ (l : List Int) (n : Int), shapeGo n l = true → prodW n l ≤ 4096 := by
  intro l
  induction l with
  | nil => intro n h; simpa [shapeGo, prodW] using h
  | cons k l ih =>
    intro n h
    simp only [shapeGo] at h
    split at h
    · cases h
    · exact ih _ h
theorem sizeOf_le (l : List Int) : sizeOf l ≤ 4096 := by
  unfold sizeOf
  split
  · rename_i h
    unfold shapeOK at h
    split at h
    · cases h
    · exact prodW_rng l 1 h
  · omega
set_option maxHeartbeats 1000000 in
theorem snd70 : Sound Try.prog 70 (FSem.eff F70).run := by
  refine sound_of hT (EOK_cons snd100 (EOK_nil _)) mixed A70 Try.func70 hb70 (by kernel_rfl) (by kernel_rfl) (by kernel_rfl) (by kernel_rfl) sh70 2 (by kernel_rfl) rs70 hr70 ?_
  intro args H r H' hw h
  have hv : F70 args H = some (r, H') := h
  clear h
  unfold F70 at hv
  split at hv
  · rename_i v x
    obtain ⟨s, hs, hv⟩ := Option.bind_eq_some_iff.1 hv
    split at hv
    rotate_left
    · cases hv
    rename_i hmax
    replace hv := Option.some.inj hv
    have hle := sizeOf_le s
    have hb0 := @xdo_bs22_0
    -- the result's cell
    have x0 : Ext H (H.new [.nilS, .nilS]) := (Ext.refl hw).new _
    have c0 : OwnC H (H.new [.nilS, .nilS]) H.bs.length H.c [.nilS, .nilS] := ⟨Nat.le_refl _, new_at _ _⟩
    have hvlt : H.c < (H.new [AV.nilS, AV.nilS]).c := Nat.lt_succ_self _
    generalize hH0 : H.new [.nilS, .nilS] = H0 at *
    generalize hp0 : H.bs.length = p0 at *
    generalize hq0 : H.c = q0 at *
    have hs0 := ints_ext x0.pre hs
    -- the shape
    obtain ⟨shv, H1, bsh, e1, r1, f1, x1⟩ := clone_own x0 hs0 hmax
    have hone : shv.one = true := ints_one' (isL.ints (.inr (.inr rfl)) (by omega) r1)
    have hbd := bld40a_one hone
    -- the tensor
    have c2 : OwnC H1 (H1.new [.nilS, .nilS]) H1.bs.length H1.c [.nilS, .nilS] := ⟨Nat.le_refl _, new_at _ _⟩
    have x2 : Ext H1 (H1.new [.nilS, .nilS]) := (Ext.refl x1.wf).new _
    have st := st40 (x := shv) (y := .nilS) (new_at H1 [.nilS, .nilS]) hone rfl
    obtain ⟨c3, x3⟩ := c2.wr x1.wf x2 [shv, .nilS]
    have hq3 : H1.c < ((H1.new [.nilS, .nilS]).put H1.bs.length ⟨H1.c, [shv, .nilS], true, true⟩).c := Nat.lt_succ_self _
    generalize hH2 : H1.new [.nilS, .nilS] = H2 at *
    generalize hp3 : H1.bs.length = p3 at *
    generalize hq3' : H1.c = q3 at *
    generalize hH3 : H2.put p3 ⟨q3, [shv, .nilS], true, true⟩ = H3 at *
    have c0' := (c0.ext x1.pre).ext x3.pre
    have r1' := Rep.ext x3.pre r1
    have x13 : Ext H H3 := (x0.trans x1).trans x3
    have hwB : Wf (H.till H3.c) := Wf.till hw x13.c
    have xB : Ext (H.till H3.c) H3 := x13.till (Nat.le_refl _)
    have hqq : q0 < q3 := by have := x1.c; omega
    have hH0c : H.c ≤ H0.c := x0.c
    have hHq : H.c ≤ q3 := by have := x0.c; have := x1.c; omega
    replace hv := Hide.mk hv
    replace hs := Hide.mk hs
    replace r1' := Hide.mk r1'
    replace c0' := Hide.mk c0'
    replace c3 := Hide.mk c3
    replace f1 := Hide.mk f1
    refine ⟨rfl, go ?_⟩
    unfold c70
    simp only [argSl]
    clear c2 x2 hs0 r1 c0 x0 x1 x3
    replace xB := Hide.mk xB
    replace x13 := Hide.mk x13
    repeat' (first | apply goSeq | apply goReg | apply goSeqN | apply goSeqR | apply goSkip | apply goRet | apply goNil | apply goBlock | apply goExit | apply goBlkN | apply goBlkR | apply goBlkE | apply goSeqE | apply goLoopR | apply goLoopE | refine xOp ?_ | refine xOp0 ?_ | refine xYes ?_ | refine xNo ?_ | refine xNoU ?_ | refine xIfT ?_ | refine xIfF ?_ | refine xIf ?_ ?_ | refine xSplit ?_ ?_ | refine xIfQ ?_ ?_ | refine xSplitQ ?_ ?_ | refine xBlkX ?_ | intro _)
    have hrw : Wf (H.till H3.c) := hwB
    refine goLoop (fun m s1 G => ∃ (i : Nat) (da : AV), m = (sizeOf s).toNat - i ∧ i ≤ (sizeOf s).toNat ∧ get s1 0 = v ∧ get s1 1 = .int .i64 x ∧ get s1 4 = .ptr p0 q0 0 ∧ get s1 5 = .ptr p3 q3 0 ∧ get s1 6 = .int .i64 i ∧ Ext (H.till H3.c) G ∧ OwnC H G p0 q0 [.nilS, .nilS] ∧ OwnC H1 G p3 q3 [shv, da] ∧ Rep H0.c G (trC s) shv bsh ∧ Own (H.till H3.c) G da (List.replicate i x)) (sizeOf s).toNat ?_ ?_
    · exact ⟨0, .nilS, rfl, Nat.zero_le _, rfl, rfl, rfl, rfl, rfl, xB.out, c0'.out, c3.out, r1'.out, .inl ⟨rfl, rfl⟩⟩
    clear hH0 hp0 hq0 hH2 hp3 hH3 e1 st hbd hb0 r1' c0' c3
    rintro m s1 G ⟨i, da, hmm, hi, g1, g2, g3, g4, g5, hx, d0, d3, hr, ho⟩
    simp only [cut_cons, cut_nil, g1, g2, g3, g4, g5]
    clear g1 g2 g3 g4 g5
    have hi0 : (0 : Int) ≤ i := Int.natCast_nonneg i
    have hw1 : w ((i : Int) + 1) = ((i + 1 : Nat) : Int) := w_id (by omega)
    have hsG := ints_ext (hx.untill x13.out.c).pre hs.out
    have l1 := ld38 d3.at' 1
    have l2 := ld40 d3.at'
    simp only [List.getElem?_cons_zero, List.getElem?_cons_succ] at l1
    replace hx := Hide.mk hx
    replace hr := Hide.mk hr
    replace ho := Hide.mk ho
    by_cases hin : (i : Int) < sizeOf s
    · replace d0 := Hide.mk d0
      replace d3 := Hide.mk d3
      repeat' (first | apply goSeq | apply goReg | apply goSeqN | apply goSeqR | apply goSkip | apply goRet | apply goNil | apply goBlock | apply goExit | apply goBlkN | apply goBlkR | apply goBlkE | apply goSeqE | apply goLoopR | apply goLoopE | refine xOp ?_ | refine xOp0 ?_ | refine xYes ?_ | refine xNo ?_ | refine xNoU ?_ | refine xIfT ?_ | refine xIfF ?_ | refine xIf ?_ ?_ | refine xSplit ?_ ?_ | refine xIfQ ?_ ?_ | refine xSplitQ ?_ ?_ | refine xBlkX ?_ | intro _)
      obtain ⟨v', G1, e, ho', hx', hk⟩ := app_own2 hwB hx.out ho.out (by simp; omega) x
      refine goOp (v := v') (H' := G1) rfl (by simp [aapp38]; exact e) ?_
      have d3' := d3.out.keep (hk p3 q3 hq3)
      have d0' := d0.out.keep (hk p0 q0 (by show q0 < H3.c; omega))
      have st := st38_1 d3'.at' (own_one ho')
      have hkp : ∀ b' ver', ver' ≠ q3 → Keeps G1 (G1.put p3 ⟨q3, [shv, v'], true, true⟩) b' ver' := fun b' ver' h => Keeps.put d3'.at' h
      clear e
      replace d3' := Hide.mk d3'
      replace ho' := Hide.mk ho'
      replace hx' := Hide.mk hx'
      replace d0' := Hide.mk d0'
      replace hkp := Hide.mk hkp
      replace hk := Hide.mk hk
      repeat' (first | apply goSeq | apply goReg | apply goSeqN | apply goSeqR | apply goSkip | apply goRet | apply goNil | apply goBlock | apply goExit | apply goBlkN | apply goBlkR | apply goBlkE | apply goSeqE | apply goLoopR | apply goLoopE | refine xOp ?_ | refine xOp0 ?_ | refine xYes ?_ | refine xNo ?_ | refine xNoU ?_ | refine xIfT ?_ | refine xIfF ?_ | refine xIf ?_ ?_ | refine xSplit ?_ ?_ | refine xIfQ ?_ ?_ | refine xSplitQ ?_ ?_ | refine xBlkX ?_ | intro _)
      refine goLoopN ((sizeOf s).toNat - (i + 1)) (by omega) ⟨i + 1, v', rfl, by omega, rfl, rfl, rfl, rfl, rfl, ?_, ?_, ?_, ?_, ?_⟩
      · exact (OwnC.wr hw (hx'.out.untill x13.out.c) (b := p3) (ver := q3) (cs := [shv, da]) ⟨hHq, d3'.out.at'⟩ [shv, v']).2.till hx'.out.c
      · exact d0'.out.keep (hkp.out p0 q0 (by omega))
      · exact ⟨d3'.out.new, at_put_same d3'.out.at' rfl⟩
      · refine Rep.keep (trC s) (fun p hp => ?_) hr.out
        have hlt := (f1.out.2 p hp).2
        exact (hk.out p.1 p.2 (by show p.2 < H3.c; omega)).trans (hkp.out p.1 p.2 (by omega))
      · rw [List.replicate_succ']
        exact ho'.out.keep fun b' ver' h => hkp.out b' ver' (by have : H3.c ≤ ver' := h; omega)
    · have hin' : i = (sizeOf s).toNat := by omega
      have d0' := d0.at'
      have d3' := d3.at'
      obtain ⟨bd, rd, fd⟩ := ho.out.repS hx.out.wf
      have hod := own_one ho.out
      have st := st40 (x := shv) (y := da) d0' hone hod
      have hkp : ∀ b' ver', ver' ≠ q0 → Keeps G (G.put p0 ⟨q0, [shv, da], true, true⟩) b' ver' := fun b' ver' h => Keeps.put d0' h
      have lr := ld40 (at_put_same (k' := ⟨q0, [shv, da], true, true⟩) d0' rfl)
      have hp := (OwnC.wr hw (hx.out.untill x13.out.c) d0 [shv, da]).2
      replace d0 := Hide.mk d0
      replace d3 := Hide.mk d3
      replace d0' := Hide.mk d0'
      replace d3' := Hide.mk d3'
      replace hkp := Hide.mk hkp
      replace rd := Hide.mk rd
      replace fd := Hide.mk fd
      replace hp := Hide.mk hp
      replace hin' := Hide.mk hin'
      repeat' (first | apply goSeq | apply goReg | apply goSeqN | apply goSeqR | apply goSkip | apply goRet | apply goNil | apply goBlock | apply goExit | apply goBlkN | apply goBlkR | apply goBlkE | apply goSeqE | apply goLoopR | apply goLoopE | refine xOp ?_ | refine xOp0 ?_ | refine xYes ?_ | refine xNo ?_ | refine xNoU ?_ | refine xIfT ?_ | refine xIfF ?_ | refine xIf ?_ ?_ | refine xSplit ?_ ?_ | refine xIfQ ?_ ?_ | refine xSplitQ ?_ ?_ | refine xBlkX ?_ | intro _)
      have hin' := hin'.out
      refine goEndR (vs := [.agg [shv, da]]) (bs := bsh ++ bd) (d := G.c) (t := .agg [trC s, trS (List.replicate (sizeOf s).toNat x)]) hw hp.out.pre ?_ ?_ (by simp) (by simp [rs70, lr]) rfl hv.out
      · refine rep_agg2.2 ⟨shv, da, bsh, bd, rfl, ?_, ?_, rfl⟩
        · have := Rep.keep (trC s) (fun p hp => hkp.out p.1 p.2 (by have := (f1.out.2 p hp).1; omega)) hr.out
          exact rep_down _ (c0 := 0) (okT_C 0 s) (Nat.zero_le _) (by omega) this
        · rw [← hin']
          have := Rep.keep (trS (List.replicate i x)) (fun p hp => hkp.out p.1 p.2 (by have : H3.c ≤ p.2 := (fd.out.2 p hp).1; omega)) rd.out
          exact rep_down _ (c0 := 0) (okT_S 0 _) (Nat.zero_le _) x13.out.c this
      · exact (f1.out.wide hH0c (Nat.le_of_lt hq3)).app fd.out x13.out.c hx.out.c
  · cases hv
/- Regions that look at some things again; writes into own lists. -/
structure YT (E : Env) (T : Tab) (sh : Bool) (full : List Co) (rs : List (Nat × Nat)) (l : List Co) (s : Sl) (H : Hp) (tr : List (Sl × Hp)) (k : Ct) : Prop where
  out : XT E T sh l s H tr fun tr' s' H' => again E T sh full tr' rs ∧ k.den E T .norm s' H'
section
variable {E : Env} {sh : Bool} {full : List Co} {rs : List (Nat × Nat)} {s : Sl} {H : Hp} {tr : List (Sl × Hp)} {k : Ct}
theorem goDrw {l : List Co} (h : YT E T sh l rs l s H [] k) : Y E T (.drw sh l rs) s H k := ⟨h.out⟩
theorem goTOp {d o l v H' q} (e : xdo E T sh o s H = q) (eq : q = some (v, H')) (h : YT E T sh full rs l ((d, v) :: s) H' (tr ++ [(s, H)]) k) : YT E T sh full rs (⟨some d, o, none⟩ :: l) s H tr k := ⟨by
  simp only [XT, XG_none, e, eq, opt_some]; exact h.out⟩
theorem goTOp0 {o l v H' q} (e : xdo E T sh o s H = q) (eq : q = some (v, H')) (h : YT E T sh full rs l s H' (tr ++ [(s, H)]) k) : YT E T sh full rs (⟨none, o, none⟩ :: l) s H tr k := ⟨by
  simp only [XT, XG_none, e, eq, opt_some]; exact h.out⟩
theorem goTNil (ha : again E T sh full (tr ++ [(s, H)]) rs) (h : K E T k .norm s H) : YT E T sh full rs [] s H tr k := ⟨⟨ha, h.out⟩⟩
end
theorem Keeps.put2 {H : Hp} {b ver b' ver' : Nat} {k k' : Blk} (hk : H.at b ver = some k) (hne : (b', ver') ≠ (b, ver)) : Keeps H (H.put b k') b' ver' := by
  intro x hx
  by_cases hv : ver' = ver
  · subst hv
    have : b' ≠ b := fun e => hne (by rw [e])
    rw [at_put this]; exact hx
  · exact Keeps.put hk hv x hx
theorem put_ext {H0 H : Hp} {b ver : Nat} {k : Blk} {cs : List AV} (hw0 : Wf H0) (he : Ext H0 H) (hv : H0.c ≤ ver) (hk : H.at b ver = some k) : Ext H0 (H.put b ⟨ver, cs, true, true⟩) := by
  obtain ⟨g1, g2⟩ := Hp.at_some hk
  have hb := (List.getElem?_eq_some_iff.1 g1).1
  refine ⟨?_, ?_, he.c⟩
  · intro i k' hi
    have h1 := he.pre i k' hi
    show (H.bs.set b _)[i]? = some k'
    by_cases hib : b = i
    · subst hib
      rw [g1] at h1
      cases h1
      exact absurd (hw0 b _ hi) (by omega)
    · rw [List.getElem?_set_ne hib]; exact h1
  · intro i k' hi
    simp only [Hp.put] at hi ⊢
    by_cases hib : b = i
    · subst hib
      simp [hb] at hi
      subst hi
      have := he.wf b _ g1
      show ver < H.c
      omega
    · rw [List.getElem?_set_ne hib] at hi
      exact he.wf i k' hi
def trB (f : Bool) (l : List Int) : Tr := if f = true then trF l else trS l
theorem rep_B {f : Bool} {c : Nat} {H : Hp} {l : List Int} {v : AV} {bs : List (Nat × Nat)} : Rep c H (trB f l) v bs ↔ (f = false ∧ l = [] ∧ v = .nilS ∧ bs = []) ∨ ∃ b ver, v = .sl b ver 0 l.length 1 f ∧ c ≤ ver ∧ (f = false → l ≠ []) ∧ H.at b ver = some ⟨ver, l.map (.int .i64), true, true⟩ ∧ bs = [(b, ver)] := by
  cases f
  · simp only [trB, Bool.false_eq_true, if_false]
    rw [rep_S]
    simp
  · simp only [trB, if_true]
    rw [rep_F]
    simp
/-- A number of an own list is written. -/
theorem rep_store {f : Bool} {c : Nat} {H : Hp} {l : List Int} {v : AV} {bs : List (Nat × Nat)} {t : Nat} (ht : t = 3 ∨ t = 2) (h : Rep c H (trB f l) v bs) (j : Nat) (hj : j < l.length) (x : Int) :
    ∃ H', astore T t (pAt v j) (.int .i64 x) H = some H' ∧ Rep c H' (trB f (l.set j x)) v bs ∧ (∀ b ver, (b, ver) ∉ bs → Keeps H H' b ver) ∧ (∀ H0, Wf H0 → Ext H0 H → H0.c ≤ c → Ext H0 H') ∧ H'.c = H.c := by
  rcases rep_B.1 h with ⟨_, rfl, _⟩ | ⟨b, ver, rfl, hv, hne, hk, rfl⟩
  · simp at hj
  · obtain ⟨g1, g2⟩ := Hp.at_some hk
    have hb := (List.getElem?_eq_some_iff.1 g1).1
    have hT : ∃ ti, T t = some ti ∧ ti.size = 1 ∧ ti.d = .int .i64 := by
      rcases ht with rfl | rfl
      · exact ⟨_, T3, rfl, rfl⟩
      · exact ⟨_, T2, rfl, rfl⟩
    obtain ⟨ti, hT, hsz, _⟩ := hT
    refine ⟨H.put b ⟨ver, (l.set j x).map (.int .i64), true, true⟩, ?_, ?_, ?_, ?_, rfl⟩
    · simp only [astore, hT, pAt, hk]
      rw [if_pos (by simp [AV.cells, AV.one, hsz]; omega)]
      have := setAll_one l j x
      simp only [Int.toNat_natCast, Nat.zero_add, Nat.mul_one, AV.cells, this]
    · refine rep_B.2 (.inr ⟨b, ver, by simp, hv, ?_, by simp [Hp.at, Hp.put, hb], rfl⟩)
      intro hf e
      have := congrArg List.length e
      simp at this
      subst this
      simp at hj
    · intro b' ver' hm
      exact Keeps.put2 hk (by simpa using hm)
    · intro H0 hw0 he hc
      exact put_ext hw0 he (Nat.le_trans hc hv) hk
theorem trS_B (l : List Int) : trB false l = trS l := by simp [trB]
theorem trF_B (l : List Int) : trB true l = trF l := by simp [trB]
/-- The end of a walk over a tape that was read on. -/
theorem goEndPt {E : Env} {H0 H : Hp} {b ver : Nat} {v0 : AV} {l0 : List Int} {a a' : Nat} {x : Ex} {s : Sl} {rs : List ResultVar} {q : Option (List AV)} {vs : List AV} {r : AV} {Hr : Hp} (hw : Wf H0) (ht : Tape H0 b ver v0 l0 a) (he : Pre (tapePut H0 b ver v0 a') H) (hx : x = .norm ∨ x = .ret) (e : xres T s H rs = q) (eq : q = some vs) (hr : (xret vs).rel (tapePut H0 b ver v0 a').bs.length (tapePut H0 b ver v0 a').c [] = r) (hh : tapePut H0 b ver v0 a' = Hr) :
    K E T (.fin fun x s' H2 => (x = .norm ∨ x = .ret) ∧ ∃ vs js, xres T s' H2 rs = some vs ∧ Can H0 H2 Hr (xret vs) r js) x s H := by
  subst hh
  exact ⟨⟨hx, vs, [], e.trans eq, (Can.pure (ht.wf hw) he hr).tape hw ht⟩⟩
theorem goEndRt {E : Env} {H0 H : Hp} {b ver : Nat} {v0 : AV} {l0 : List Int} {a a' : Nat} {x : Ex} {s : Sl} {rs : List ResultVar} {q : Option (List AV)} {vs : List AV} {t : Tr} {bs : List (Nat × Nat)} {d : Nat} {r : AV} {Hr : Hp} (hw : Wf H0) (ht : Tape H0 b ver v0 l0 a) (he : Pre (tapePut H0 b ver v0 a') H) (ho : Rep H0.c H t (xret vs) bs) (hf : Fresh H0.c d bs) (hx : x = .norm ∨ x = .ret) (e : xres T s H rs = q) (eq : q = some vs) (hr : mk t (tapePut H0 b ver v0 a') = (r, Hr)) :
    K E T (.fin fun x s' H2 => (x = .norm ∨ x = .ret) ∧ ∃ vs js, xres T s' H2 rs = some vs ∧ Can H0 H2 Hr (xret vs) r js) x s H := by
  have := can_rep (ht.wf hw) he (t := t) (v := xret vs) (bs := bs) ho hf.1
  rw [hr] at this
  exact ⟨⟨hx, vs, bs, e.trans eq, this.tape hw ht⟩⟩
theorem Keeps.tape {H : Hp} {b ver : Nat} {v : AV} {l : List Int} {a a' : Nat} (ht : Tape H b ver v l a) {b' ver' : Nat} (hv : ver' ≠ ver) : Keeps H (tapePut H b ver v a') b' ver' := Keeps.put ht.at' hv
/- Walks: numbers and tensors of a tape. -/
def numLits : List Int := [9223372036854775807, -9223372036854775808, 4611686018427387904, -1099511627776, 8589934592, 3037000500]
theorem xdo_bs38_6 {E : Env} {sh : Bool} {s : Sl} {H : Hp} : xdo E T sh (.buildSlice 38 6 #[(0, (.const (.int .i64 9223372036854775807))), (1, (.const (.int .i64 (-9223372036854775808)))), (2, (.const (.int .i64 4611686018427387904))), (3, (.const (.int .i64 (-1099511627776)))), (4, (.const (.int .i64 8589934592))), (5, (.const (.int .i64 3037000500)))]) s H = some (.sl H.bs.length H.c 0 6 1 true, H.new (numLits.map (.int .i64))) := by
  simp [xdo, aop, D38, T2, rep, afill, setAll, AV.cells, AV.one, numLits]
/-- A number of a tape. -/
def numT (l : List Int) (a : Nat) : Int × Nat :=
  if nextOf l a 9 = 0 then (nth numLits (nextOf l (nextAt l a 9) 6), nextAt l (nextAt l a 9) 6)
  else if nextOf l a 9 = 1 then (0, nextAt l a 9)
  else (w (nextOf l (nextAt l a 9) 19 - 9), nextAt l (nextAt l a 9) 19)
theorem numT_le {l : List Int} {a : Nat} (h : a ≤ l.length) : (numT l a).2 ≤ l.length := by
  unfold numT
  split
  · exact nextAt_le (nextAt_le h)
  · split
    · exact nextAt_le h
    · exact nextAt_le (nextAt_le h)
noncomputable def F133 (args : List AV) (H : Hp) : Option (AV × Hp) := match args with
  | [.ptr b ver 0] => tapeF H b ver fun v l a => (.int .i64 (numT l a).1, tapePut H b ver v (numT l a).2)
  | _ => none
theorem F133_at {H : Hp} {b ver : Nat} {v : AV} {l : List Int} {a : Nat} (h : Tape H b ver v l a) : F133 [.ptr b ver 0] H = some (.int .i64 (numT l a).1, tapePut H b ver v (numT l a).2) := by
  simp only [F133]; exact tapeF_at h
set_option maxHeartbeats 1000000 in
theorem snd133 : Sound Try.prog 133 (FSem.eff F133).run := by
  refine sound_of hT (EOK_cons snd16 (EOK_nil _)) mixed A133 Try.func133 hb133 (by kernel_rfl) (by kernel_rfl) (by kernel_rfl) (by kernel_rfl) sh133 1 (by kernel_rfl) rs133 hr133 ?_
  intro args H r H' hw h
  have hv : F133 args H = some (r, H') := h
  clear h
  unfold F133 at hv
  split at hv
  · rename_i b ver
    obtain ⟨v, l, a, ht, hv⟩ := tapeF_some hv
    obtain ⟨rfl, rfl⟩ := Prod.mk.inj hv
    clear hv
    have e1 := F16_at ht 9
    obtain ⟨k0, k9⟩ := next_range (a' := a) ht 9 (by omega)
    have ht1 : Tape (tapePut H b ver v (nextAt l a 9)) b ver v l (nextAt l a 9) := ht.put (nextAt_le ht.le)
    have hw1 := ht.wf (a' := nextAt l a 9) hw
    have hb6 := @xdo_bs38_6
    refine ⟨rfl, go ?_⟩
    unfold c133
    simp only [argSl]
    replace ht := Hide.mk ht
    generalize hk : nextOf l a 9 = k at *
    by_cases h0 : k = 0
    · subst h0
      have hres : numT l a = (nth numLits (nextOf l (nextAt l a 9) 6), nextAt l (nextAt l a 9) 6) := by simp [numT, hk]
      rw [hres]
      obtain ⟨j0, j6⟩ := next_range (a' := nextAt l a 9) ht.out 6 (by omega)
      have hbl : b < (tapePut H b ver v (nextAt l a 9)).bs.length := (List.getElem?_eq_some_iff.1 (Hp.at_some ht1.at').1).1
      have hpp : tapePut (tapePut H b ver v (nextAt l a 9)) b ver v (nextAt l (nextAt l a 9) 6) = tapePut H b ver v (nextAt l (nextAt l a 9) 6) := tape_tape _ _ _ _ _ _
      have hx6 : Ext (tapePut H b ver v (nextAt l a 9)) ((tapePut H b ver v (nextAt l a 9)).new (numLits.map (.int .i64))) := (Ext.refl hw1).new _
      have hpre := (Ext.tape (a' := nextAt l (nextAt l a 9) 6) ht1 hx6).pre
      rw [hpp] at hpre
      generalize hG : tapePut H b ver v (nextAt l a 9) = G at *
      have ht2 : Tape (G.new (numLits.map (.int .i64))) b ver v l (nextAt l a 9) := ht1.ext hx6.pre
      have e2 := F16_at ht2 6
      have hil : ints (tapePut (G.new (numLits.map (.int .i64))) b ver v (nextAt l (nextAt l a 9) 6)) (.sl G.bs.length G.c 0 6 1 true) = some numLits := by
        unfold tapePut
        rw [ints_put (by simp [off]; omega)]
        exact ints_of_ownF (mkF_own G numLits) (by decide)
      have hix := aidxS_ints hil .i64
      have hld := aload_nth T2 rfl hil
      simp only [← aidx38, show ((numLits.length : Nat) : Int) = 6 from rfl] at hix hld
      replace ht1 := Hide.mk ht1
      replace ht2 := Hide.mk ht2
      replace hpre := Hide.mk hpre
      clear hil hx6 hres hpp hG
      repeat' (first | apply goSeq | apply goReg | apply goSeqN | apply goSeqR | apply goSkip | apply goRet | apply goNil | apply goBlock | apply goExit | apply goBlkN | apply goBlkR | apply goBlkE | apply goSeqE | apply goLoopR | apply goLoopE | refine xOp ?_ | refine xOp0 ?_ | refine xYes ?_ | refine xNo ?_ | refine xNoU ?_ | refine xIfT ?_ | refine xIfF ?_ | refine xIf ?_ ?_ | refine xSplit ?_ ?_ | refine xIfQ ?_ ?_ | refine xSplitQ ?_ ?_ | refine xBlkX ?_ | intro _)
      exact goEndPt hw ht.out hpre.out (by simp) (by simp [rs133]; exact rfl) rfl rfl rfl
    · by_cases h1 : k = 1
      · subst h1
        have hres : numT l a = (0, nextAt l a 9) := by simp [numT, hk]
        rw [hres]
        replace ht1 := Hide.mk ht1
        clear hres
        repeat' (first | apply goSeq | apply goReg | apply goSeqN | apply goSeqR | apply goSkip | apply goRet | apply goNil | apply goBlock | apply goExit | apply goBlkN | apply goBlkR | apply goBlkE | apply goSeqE | apply goLoopR | apply goLoopE | refine xOp ?_ | refine xOp0 ?_ | refine xYes ?_ | refine xNo ?_ | refine xNoU ?_ | refine xIfT ?_ | refine xIfF ?_ | refine xIf ?_ ?_ | refine xSplit ?_ ?_ | refine xIfQ ?_ ?_ | refine xSplitQ ?_ ?_ | refine xBlkX ?_ | intro _)
        exact goEndPt hw ht.out (Pre.refl _) (by simp) (by simp [rs133]; exact rfl) rfl rfl rfl
      · have hres : numT l a = (w (nextOf l (nextAt l a 9) 19 - 9), nextAt l (nextAt l a 9) 19) := by simp [numT, hk, h0, h1]
        rw [hres]
        have e2 := F16_at ht1 19
        rw [tape_tape] at e2
        replace ht1 := Hide.mk ht1
        clear hres
        repeat' (first | apply goSeq | apply goReg | apply goSeqN | apply goSeqR | apply goSkip | apply goRet | apply goNil | apply goBlock | apply goExit | apply goBlkN | apply goBlkR | apply goBlkE | apply goSeqE | apply goLoopR | apply goLoopE | refine xOp ?_ | refine xOp0 ?_ | refine xYes ?_ | refine xNo ?_ | refine xNoU ?_ | refine xIfT ?_ | refine xIfF ?_ | refine xIf ?_ ?_ | refine xSplit ?_ ?_ | refine xIfQ ?_ ?_ | refine xSplitQ ?_ ?_ | refine xBlkX ?_ | intro _)
        exact goEndPt hw ht.out (Pre.refl _) (by simp) (by simp [rs133]; exact rfl) rfl rfl rfl
  · cases hv
/-- A tensor's numbers of a tape. -/
def dataT (l : List Int) : Nat → Nat → List Int × Nat
  | 0, a => ([], a)
  | n + 1, a => ((numT l a).1 :: (dataT l n (numT l a).2).1, (dataT l n (numT l a).2).2)
theorem dataT_len (l : List Int) : ∀ n a, (dataT l n a).1.length = n := by
  intro n
  induction n with
  | zero => intro a; rfl
  | succ n ih => intro a; simp [dataT, ih]
theorem dataT_le {l : List Int} : ∀ n a, a ≤ l.length → (dataT l n a).2 ≤ l.length := by
  intro n
  induction n with
  | zero => intro a h; exact h
  | succ n ih => intro a h; exact ih _ (numT_le h)
noncomputable def F80 (args : List AV) (H : Hp) : Option (AV × Hp) := match args with
  | [.ptr b ver 0, sh] => (ints H sh).bind fun s => if s.length < 1099511627776 then tapeF H b ver fun v l a => mk (.agg [trC s, trS (dataT l (sizeOf s).toNat a).1]) (tapePut H b ver v (dataT l (sizeOf s).toNat a).2) else none
  | _ => none
set_option maxHeartbeats 2000000 in
theorem snd80 : Sound Try.prog 80 (FSem.eff F80).run := by
  refine sound_of hT (EOK_cons snd70 (EOK_cons snd133 (EOK_nil _))) mixed A80 Try.func80 hb80 (by kernel_rfl) (by kernel_rfl) (by kernel_rfl) (by kernel_rfl) sh80 2 (by kernel_rfl) rs80 hr80 ?_
  intro args H r H' hw h
  have hv : F80 args H = some (r, H') := h
  clear h
  unfold F80 at hv
  split at hv
  · rename_i b ver sh
    obtain ⟨s, hs, hv⟩ := Option.bind_eq_some_iff.1 hv
    split at hv
    rotate_left
    · cases hv
    rename_i hmax
    obtain ⟨v, l, a, ht, hv⟩ := tapeF_some hv
    have hle := sizeOf_le s
    have hver : ver < H.c := at_lt hw ht.at'
    generalize hn : (sizeOf s).toNat = n at *
    generalize hFL : (dataT l n a).1 = FL at *
    generalize hFA : (dataT l n a).2 = FA at *
    -- the result's cell
    have x0 : Ext H (H.new [.nilS, .nilS]) := (Ext.refl hw).new _
    have c0 : OwnC H (H.new [.nilS, .nilS]) H.bs.length H.c [.nilS, .nilS] := ⟨Nat.le_refl _, new_at _ _⟩
    have hvlt : H.c < (H.new [AV.nilS, AV.nilS]).c := Nat.lt_succ_self _
    generalize hH0 : H.new [.nilS, .nilS] = H0 at *
    generalize hp0 : H.bs.length = p0 at *
    generalize hq0 : H.c = q0 at *
    have hs0 := ints_ext x0.pre hs
    -- filled
    have e70 : F70 [sh, .int .i64 0] H0 = some (mk (.agg [trC s, trS (List.replicate n 0)]) H0) := by
      show (ints H0 sh).bind _ = _
      rw [hs0, Option.bind_some, if_pos hmax, hn]
    obtain ⟨bs, r1, f1, x1, t1⟩ := mk_tens (H := H0) x0.wf (a := trC s) (b := trS (List.replicate n 0)) (s := s) (d := List.replicate n 0) (.inr (.inr rfl)) (.inl rfl) (by omega) (by simp; omega)
    generalize hr1 : mk (.agg [trC s, trS (List.replicate n 0)]) H0 = tt at *
    obtain ⟨t0, H1⟩ := tt
    simp only at r1 f1 x1 t1
    obtain ⟨shv, dav, b1, b2, rfl, rs1, rd1, rfl⟩ := rep_agg2.1 r1
    obtain ⟨_, _, hag, hsi, hdi⟩ := tens_some t1
    cases hag
    have hone := ints_one' hsi
    have hone2 := ints_one' hdi
    have hdl : alen T 38 dav = some (.int .i64 n) := by rw [alen38, alenS_ints hdi]; simp
    -- the tensor
    have c2 : OwnC H1 (H1.new [.nilS, .nilS]) H1.bs.length H1.c [.nilS, .nilS] := ⟨Nat.le_refl _, new_at _ _⟩
    have x2 : Ext H1 (H1.new [.nilS, .nilS]) := (Ext.refl x1.wf).new _
    have st := st40 (x := shv) (y := dav) (new_at H1 [.nilS, .nilS]) hone hone2
    obtain ⟨c3, x3⟩ := c2.wr x1.wf x2 [shv, dav]
    generalize hH2 : H1.new [.nilS, .nilS] = H2 at *
    generalize hp3 : H1.bs.length = p3 at *
    generalize hq3' : H1.c = q3 at *
    generalize hH3 : H2.put p3 ⟨q3, [shv, dav], true, true⟩ = H3 at *
    have l1 := ld38 c3.at' 1
    simp only [List.getElem?_cons_zero, List.getElem?_cons_succ] at l1
    have c0' := (c0.ext x1.pre).ext x3.pre
    have rs3 := Rep.ext x3.pre rs1
    have rd3 := Rep.ext x3.pre rd1
    have x13 : Ext H H3 := (x0.trans x1).trans x3
    have hH0c : q0 ≤ H0.c := by omega
    have h03 : H0.c ≤ q3 := by have := x1.c; omega
    replace hv := Hide.mk hv
    replace hs := Hide.mk hs
    replace ht := Hide.mk ht
    replace f1 := Hide.mk f1
    replace rs3 := Hide.mk rs3
    replace rd3 := Hide.mk rd3
    replace c0' := Hide.mk c0'
    replace c3 := Hide.mk c3
    replace x13 := Hide.mk x13
    clear c2 x2 hs0 r1 c0 x1 x3 t1 rs1 rd1 hsi hdi x0 hr1
    refine ⟨rfl, go ?_⟩
    unfold c80
    simp only [argSl]
    repeat' (first | apply goSeq | apply goReg | apply goSeqN | apply goSeqR | apply goSkip | apply goRet | apply goNil | apply goBlock | apply goExit | apply goBlkN | apply goBlkR | apply goBlkE | apply goSeqE | apply goLoopR | apply goLoopE | refine xOp ?_ | refine xOp0 ?_ | refine xYes ?_ | refine xNo ?_ | refine xNoU ?_ | refine xIfT ?_ | refine xIfF ?_ | refine xIf ?_ ?_ | refine xSplit ?_ ?_ | refine xIfQ ?_ ?_ | refine xSplitQ ?_ ?_ | refine xBlkX ?_ | intro _)
    have hFLh := Hide.mk hFL
    have hFAh := Hide.mk hFA
    clear hFL hFA hH0 hp0 hH2 hp3 hH3 e70 st hdl l1
    refine goLoop (fun m s1 G => ∃ (i a1 : Nat) (L : List Int), m = n - i ∧ i ≤ n ∧ a1 ≤ l.length ∧ L.length = n ∧ get s1 0 = .ptr b ver 0 ∧ get s1 4 = .ptr p0 q0 0 ∧ get s1 5 = .ptr p3 q3 0 ∧ get s1 11 = .int .i64 n ∧ get s1 12 = .int .i64 i ∧ Ext (tapePut H b ver v a1) G ∧ OwnC H G p0 q0 [.nilS, .nilS] ∧ OwnC H1 G p3 q3 [shv, dav] ∧ Rep H0.c G (trC s) shv b1 ∧ Rep H0.c G (trS L) dav b2 ∧ L.take i ++ (dataT l (n - i) a1).1 = FL ∧ (dataT l (n - i) a1).2 = FA) n ?_ ?_
    · refine ⟨0, a, List.replicate n 0, rfl, Nat.zero_le _, ht.out.le, by simp, rfl, rfl, rfl, rfl, rfl, ?_, c0'.out, c3.out, rs3.out, rd3.out, by simpa using hFLh.out, hFAh.out⟩
      have hself : tapePut H b ver v a = H := put_self ht.out.at'
      rw [hself]; exact x13.out
    clear c0' c3 rs3 rd3
    rintro m s1 G ⟨i, a1, L, hmm, hi, ha1, hLn, g1, g2, g3, g4, g5, hx, d0, d3, hr, hd, hL, hA⟩
    simp only [cut_cons, cut_nil, g1, g2, g3, g4, g5]
    clear g1 g2 g3 g4 g5
    have hi0 : (0 : Int) ≤ i := Int.natCast_nonneg i
    have hw1 : w ((i : Int) + 1) = ((i + 1 : Nat) : Int) := w_id (by omega)
    have hwp := ht.out.wf (a' := a1) hw
    have l1 := ld38 d3.at' 1
    have l2 := ld40 d3.at'
    simp only [List.getElem?_cons_zero, List.getElem?_cons_succ] at l1
    replace hr := Hide.mk hr
    replace hL := Hide.mk hL
    replace hA := Hide.mk hA
    replace hLn := Hide.mk hLn
    by_cases hin : i < n
    · have ta : Tape G b ver v l a1 := (ht.out.put ha1).ext hx.pre
      have e1 := F133_at ta
      have hx2 := Ext.tape (a' := (numT l a1).2) (ht.out.put ha1) hx
      rw [tape_tape] at hx2
      have hwp2 := ht.out.wf (a' := (numT l a1).2) hw
      have k1 : ∀ b' ver', ver' ≠ ver → Keeps G (tapePut G b ver v (numT l a1).2) b' ver' := fun b' ver' h => Keeps.tape ta h
      have hd1 := Rep.keep (trS L) (fun p hp => k1 p.1 p.2 (by have := (f1.out.2 p (by simp [hp])).1; omega)) hd
      have hr1 := Rep.keep (trC s) (fun p hp => k1 p.1 p.2 (by have := (f1.out.2 p (by simp [hp])).1; omega)) hr.out
      have d31 := d3.keep (k1 p3 q3 (by omega))
      have d01 := d0.keep (k1 p0 q0 (by omega))
      have l1' := ld38 d31.at' 1
      simp only [List.getElem?_cons_zero, List.getElem?_cons_succ] at l1'
      have hixd : aidx T 38 dav (.int .i64 i) = some (pAt dav i) := by
        have := aidxS_ints (isL.ints (.inl rfl) (by rw [hLn.out]; omega) hd) .i64 i
        rw [aidx38, this, if_pos (by rw [hLn.out]; omega)]
      rw [← trS_B] at hd1
      generalize hG1 : tapePut G b ver v (numT l a1).2 = G1 at *
      obtain ⟨G2, e2, hd2, hk2, hx3, _⟩ := rep_store (.inr rfl) hd1 i (by rw [hLn.out]; exact hin) (numT l a1).1
      have hd12 := List.nodup_append.1 f1.out.1
      have hr2 := Rep.keep (trC s) (fun p hp => hk2 p.1 p.2 (fun hm => hd12.2.2 p hp p hm rfl)) hr1
      have d32 := d31.keep (hk2 p3 q3 (fun hm => by have := (f1.out.2 _ (List.mem_append_right _ hm)).2; simp only at this; omega))
      have d02 := d01.keep (hk2 p0 q0 (fun hm => by have := (f1.out.2 _ (List.mem_append_right _ hm)).1; simp only at this; omega))
      have hx4 := hx3 _ hwp2 hx2 (by show H.c ≤ H0.c; omega)
      replace hx4 := Hide.mk hx4
      replace d32 := Hide.mk d32
      replace d02 := Hide.mk d02
      replace hr2 := Hide.mk hr2
      replace hd2 := Hide.mk hd2
      replace ta := Hide.mk ta
      clear hx hx2 hx3 d0 d3 d01 d31 hr1 hd1 hd k1 hk2 hd12
      have hin' : (i : Int) < n := by omega
      repeat' (first | apply goSeq | apply goReg | apply goSeqN | apply goSeqR | apply goSkip | apply goRet | apply goNil | apply goBlock | apply goExit | apply goBlkN | apply goBlkR | apply goBlkE | apply goSeqE | apply goLoopR | apply goLoopE | refine xOp ?_ | refine xOp0 ?_ | refine xYes ?_ | refine xNo ?_ | refine xNoU ?_ | refine xIfT ?_ | refine xIfF ?_ | refine xIf ?_ ?_ | refine xSplit ?_ ?_ | refine xIfQ ?_ ?_ | refine xSplitQ ?_ ?_ | refine xBlkX ?_ | intro _)
      apply goDrw
      iterate 6 (apply goTOp; (· (simp [*]; try exact rfl)); (· exact rfl))
      apply goTOp0; (· (simp [*]; try exact rfl)); (· exact rfl)
      refine goTNil (by simp [again, XG_none, l1, l1']) ?_
      repeat' (first | apply goSeq | apply goReg | apply goSeqN | apply goSeqR | apply goSkip | apply goRet | apply goNil | apply goBlock | apply goExit | apply goBlkN | apply goBlkR | apply goBlkE | apply goSeqE | apply goLoopR | apply goLoopE | refine xOp ?_ | refine xOp0 ?_ | refine xYes ?_ | refine xNo ?_ | refine xNoU ?_ | refine xIfT ?_ | refine xIfF ?_ | refine xIf ?_ ?_ | refine xSplit ?_ ?_ | refine xIfQ ?_ ?_ | refine xSplitQ ?_ ?_ | refine xBlkX ?_ | intro _)
      have hLn := hLn.out
      have e3 : dataT l (n - i) a1 = ((numT l a1).1 :: (dataT l (n - (i + 1)) (numT l a1).2).1, (dataT l (n - (i + 1)) (numT l a1).2).2) := by
        rw [show n - i = (n - (i + 1)) + 1 by omega]; rfl
      refine goLoopN (n - (i + 1)) (by omega) ⟨i + 1, (numT l a1).2, L.set i (numT l a1).1, rfl, by omega, numT_le ha1, by simp [hLn], rfl, rfl, rfl, rfl, rfl, hx4.out, d02.out, d32.out, hr2.out, by rw [← trS_B]; exact hd2.out, ?_, ?_⟩
      · rw [take_set1 L i _ (by omega), ← hL.out, e3, List.append_assoc]; rfl
      · rw [← hA.out, e3]
    · have hin' : ¬ (i : Int) < n := by omega
      have hdl := alenS_ints (isL.ints (.inl rfl) (by rw [hLn.out]; omega) hd)
      have d0' := d0.at'
      have st := st40 (x := shv) (y := dav) d0' hone hone2
      have hkp : ∀ b' ver', ver' ≠ q0 → Keeps G (G.put p0 ⟨q0, [shv, dav], true, true⟩) b' ver' := fun b' ver' h => Keeps.put d0' h
      have lr := ld40 (at_put_same (k' := ⟨q0, [shv, dav], true, true⟩) d0' rfl)
      have hp := put_ext (cs := [shv, dav]) hwp hx (by show H.c ≤ q0; omega) d0'
      have hFA2 : a1 = FA := by
        have := hA.out
        rw [show n - i = 0 by omega] at this
        exact this
      have hFL2 : L = FL := by
        have := hL.out
        rw [show n - i = 0 by omega] at this
        simp only [dataT, List.append_nil] at this
        rw [List.take_of_length_le (by rw [hLn.out]; omega)] at this
        exact this
      subst hFA2
      subst hFL2
      replace d0 := Hide.mk d0
      replace d3 := Hide.mk d3
      replace d0' := Hide.mk d0'
      replace hkp := Hide.mk hkp
      replace hx := Hide.mk hx
      replace hd := Hide.mk hd
      replace hp := Hide.mk hp
      repeat' (first | apply goSeq | apply goReg | apply goSeqN | apply goSeqR | apply goSkip | apply goRet | apply goNil | apply goBlock | apply goExit | apply goBlkN | apply goBlkR | apply goBlkE | apply goSeqE | apply goLoopR | apply goLoopE | refine xOp ?_ | refine xOp0 ?_ | refine xYes ?_ | refine xNo ?_ | refine xNoU ?_ | refine xIfT ?_ | refine xIfF ?_ | refine xIf ?_ ?_ | refine xSplit ?_ ?_ | refine xIfQ ?_ ?_ | refine xSplitQ ?_ ?_ | refine xBlkX ?_ | intro _)
      have hlo : ∀ p ∈ b1 ++ b2, p.2 ≠ q0 := fun p hp => by have := (f1.out.2 p hp).1; omega
      refine goEndRt (a' := a1) (vs := [.agg [shv, dav]]) (bs := b1 ++ b2) (d := q3) (t := .agg [trC s, trS L]) hw ht.out hp.out.pre ?_ ?_ (by simp) (by simp [rs80, lr]) rfl hv.out
      · refine rep_agg2.2 ⟨shv, dav, b1, b2, rfl, ?_, ?_, rfl⟩
        · exact rep_down _ (c0 := 0) (okT_C 0 s) (Nat.zero_le _) (by omega) (Rep.keep (trC s) (fun p hp => hkp.out p.1 p.2 (hlo p (by simp [hp]))) hr.out)
        · exact rep_down _ (c0 := 0) (okT_S 0 _) (Nat.zero_le _) (by omega) (Rep.keep (trS L) (fun p hp => hkp.out p.1 p.2 (hlo p (by simp [hp]))) hd.out)
      · exact f1.out.wide (by omega) (Nat.le_refl _)
  · cases hv
/- Plain law of TileShares: the sums. -/
def prodI : List Int → Int
  | [] => 1
  | k :: l => k * prodI l
theorem mul_rng {a b A B : Int} (ha : 0 ≤ a ∧ a ≤ A) (hb : 0 ≤ b ∧ b ≤ B) : 0 ≤ a * b ∧ a * b ≤ A * B :=
  ⟨Int.mul_nonneg ha.1 hb.1, Int.mul_le_mul ha.2 hb.2 hb.1 (by omega)⟩
theorem prodW_3 {l : List Int} (h3 : l.length ≤ 3) (h : ∀ x ∈ l, 0 ≤ x ∧ x ≤ 7) : prodW 1 l = prodI l ∧ 0 ≤ prodI l ∧ prodI l ≤ 343 := by
  match l, h3, h with
  | [], _, _ => simp [prodW, prodI]
  | [a], _, h =>
    have ha := h a (by simp)
    simp only [prodW, prodI, Int.one_mul, Int.mul_one]
    rw [w_id (by omega)]
    omega
  | [a, b], _, h =>
    have ha := h a (by simp)
    have hb := h b (by simp)
    have hab := mul_rng ha hb
    simp only [prodW, prodI, Int.one_mul, Int.mul_one]
    rw [w_id (x := a) (by omega), w_id (by omega)]
    omega
  | [a, b, c], _, h =>
    have ha := h a (by simp)
    have hb := h b (by simp)
    have hc := h c (by simp)
    have hab := mul_rng ha hb
    have habc := mul_rng hab hc
    simp only [prodW, prodI, Int.one_mul, Int.mul_one]
    rw [w_id (x := a) (by omega), w_id (x := a * b) (by omega), w_id (by omega), ← Int.mul_assoc]
    omega
  | _ :: _ :: _ :: _ :: _, h3, _ => simp at h3
theorem shape_3 {s : List Int} (h3 : s.length ≤ 3) (h : ∀ x ∈ s, x ∈ lens) : shapeOK s = true := by
  have hr : ∀ x ∈ s, 0 ≤ x ∧ x ≤ 7 := fun x hx => lens_rng x (h x hx)
  have hp := prodW_3 h3 hr
  have key : ∀ (l : List Int) (n : Int), (∀ x ∈ l, 0 ≤ x ∧ x ≤ 7) → shapeGo n l = decide (prodW n l ≤ 4096) := by
    intro l
    induction l with
    | nil => intro n _; rfl
    | cons k l ih =>
      intro n hl
      have hk := hl k (by simp)
      simp only [shapeGo, prodW]
      rw [if_neg (by omega)]
      exact ih _ fun x hx => hl x (by simp [hx])
  unfold shapeOK
  rw [if_neg (by omega), key s 1 hr]
  simp only [decide_eq_true_eq]
  omega
theorem chk_at {m : List Int} (hm : m ∈ six) {d : Nat} (hd : (d : Int) < devs m) {n : Int} (hn : n ∈ lens) {k : Nat} (hk : k < m.length) :
    0 ≤ szOf m (meshAt m d) n k ∧ szOf m (meshAt m d) n k ≤ szOf m (meshAt m 0) n k ∧ szOf m (meshAt m 0) n k ≤ 7 := by
  have h1 := List.all_eq_true.1 chk_six m hm
  have h2 := List.all_eq_true.1 h1 d (by simp; omega)
  have h3 := List.all_eq_true.1 h2 n hn
  have h4 := List.all_eq_true.1 h3 k (by simpa using hk)
  simpa using h4
theorem sz_rng {m : List Int} (hm : m ∈ six) {d : Nat} (hd : (d : Int) < devs m) {n : Int} (hn : n ∈ lens) {k : Int} (hk : k < m.length) :
    0 ≤ szOf m (meshAt m d) n k ∧ szOf m (meshAt m d) n k ≤ szOf m (meshAt m 0) n k ∧ szOf m (meshAt m 0) n k ≤ 7 := by
  by_cases h0 : 0 ≤ k
  · obtain ⟨j, rfl⟩ : ∃ j : Nat, k = j := ⟨k.toNat, by omega⟩
    exact chk_at hm hd hn (by omega)
  · simp only [szOf, if_neg h0]
    have := lens_rng n hn
    omega
theorem szs_rng {m : List Int} (hm : m ∈ six) {d : Nat} (hd : (d : Int) < devs m) : ∀ (s p : List Int), (∀ x ∈ s, x ∈ lens) → (∀ k ∈ p, k < m.length) → ∀ x ∈ szs m (meshAt m d) s p, 0 ≤ x ∧ x ≤ 7 := by
  intro s
  induction s with
  | nil => intro p _ _ x hx; simp [szs] at hx
  | cons n s ih =>
    intro p hs hp x hx
    cases p with
    | nil => simp [szs] at hx
    | cons k p =>
      simp only [szs, List.mem_cons] at hx
      rcases hx with rfl | hx
      · have := sz_rng hm hd (hs n (by simp)) (hp k (by simp))
        omega
      · exact ih p (fun y hy => hs y (by simp [hy])) (fun y hy => hp y (by simp [hy])) x hx
theorem fin {X S c' c : Int} (hc : c' = c) (h : X = S * c) : X = S * c' := by rw [hc, h]
theorem spec_rng {p : List Int} {n : Int} (h : specGo n [] p = true) : ∀ k ∈ p, -1 ≤ k ∧ k < n := by
  intro k hk
  obtain ⟨i, hi, rfl⟩ := List.getElem_of_mem hk
  rw [← specGo_eq] at h
  have := rSpecGo_lt p [] h i hi
  simpa [nth, hi] using this
/- Functions in short form. -/
/-! parquetry/parquetrylaw17.made (1 parameters; calls 16 (*parquetry/parquetrykeep.Tape).Next, 17 (*parquetry/parquetrykeep.Tape).Shape, 18 (*parquetry/parquetrykeep.Tape).Spec, 80 (*parquetry/parquetrykeep.Tape).Tensor) -/
/-! parquetry/axes.Sliced (3 parameters; calls none) -/
/-! parquetry/axes.Slice$1 (1 parameters; calls 162 parquetry/axes.at) -/
/-! parquetry/axes.Slice (3 parameters; calls 91 parquetry/tensor.Right, 138 parquetry/tensor.Made, 160 parquetry/axes.Sliced) -/
/-! parquetry/split.Part (4 parameters; calls 21 parquetry/tile.Size, 22 parquetry/tile.From, 87 parquetry/split.may, 88 parquetry/mesh.Devices, 134 parquetry/axes.Slice) -/
/-! parquetry/split.All (3 parameters; calls 81 parquetry/split.Part, 87 parquetry/split.may, 88 parquetry/mesh.Devices) -/
/- Functions in short form. -/
/-! parquetry/tensor.place (2 parameters; calls 91 parquetry/tensor.Right, 96 parquetry/shape.Index) -/
/-! parquetry/tensor.Get (2 parameters; calls 182 parquetry/tensor.place) -/
/-! parquetry/axes.at (2 parameters; calls 174 parquetry/tensor.Get) -/
/- Walks: a tensor's number at a place. -/
theorem pow32 (k : Nat) (h : k ≤ 4) : ((32 ^ k : Nat) : Int) ≤ 1048576 := by
  have : 32 ^ k ≤ 32 ^ 4 := Nat.pow_le_pow_right (by decide) h
  have h4 : (32 : Nat) ^ 4 = 1048576 := by decide
  omega
/-- The number of a place of a tensor; -1: it is none. -/
def plT (p : List Int × List Int) (l : List Int) : Int := if tOK p = true then idxL p.1 l else -1
def F182 (args : List AV) (H : Hp) : Option AV := match args with
  | [t, a] => (tens H t).bind fun p => (ints H a).map fun l => .int .i64 (plT p l)
  | _ => none
@[simp] theorem F182_at (t a : AV) (H : Hp) : F182 [t, a] H = (tens H t).bind fun p => (ints H a).map fun l => .int .i64 (plT p l) := rfl
/-- The number at a place; 0: there is none. -/
def atT (p : List Int × List Int) (l : List Int) : Int := if plT p l < 0 then 0 else nth p.2 (plT p l)
def F174 (args : List AV) (H : Hp) : Option AV := match args with
  | [t, a] => (tens H t).bind fun p => (ints H a).map fun l => .tup [.int .i64 (atT p l), .bool (!decide (plT p l < 0))]
  | _ => none
@[simp] theorem F174_at (t a : AV) (H : Hp) : F174 [t, a] H = (tens H t).bind fun p => (ints H a).map fun l => .tup [.int .i64 (atT p l), .bool (!decide (plT p l < 0))] := rfl
def F162 (args : List AV) (H : Hp) : Option AV := match args with
  | [t, a] => (tens H t).bind fun p => (ints H a).map fun l => .int .i64 (atT p l)
  | _ => none
@[simp] theorem F162_at (t a : AV) (H : Hp) : F162 [t, a] H = (tens H t).bind fun p => (ints H a).map fun l => .int .i64 (atT p l) := rfl
/- Walks: what is called for each place of a tensor. -/
theorem aload_ext {t : Nat} {a v : AV} {H G : Hp} (hp : Pre H G) (h : aload T t a H = some v) : aload T t a G = some v := by
  unfold aload at h ⊢
  split at h
  · rename_i i b ver off hi _
    split at h
    · rename_i k hk
      simp only [hp.at hk]
      exact h
    · cases h
  · cases h
/-- Places moved. -/
def addL : List Int → List Int → List Int
  | a :: l, b :: m => w (a + b) :: addL l m
  | l, _ => l
/-- The place is an own list, the rest lies elsewhere. -/
structure P161 (H : Hp) (pb pv n b1 v1 b2 v2 : Nat) (at' fr : List Int) (p : List Int × List Int) (fv x y : AV) : Prop where
  blk : H.at pb pv = some ⟨pv, at'.map (.int .i64), true, true⟩
  len : at'.length = n
  lb : n ≤ 1099511627776
  fl : aload T 22 (.ptr b1 v1 0) H = some fv
  fb : b1 ≠ pb
  fi : ints H fv = some fr
  fo : off fv pb = true
  tl : aload T 40 (.ptr b2 v2 0) H = some (.agg [x, y])
  tb : b2 ≠ pb
  tx : ints H x = some p.1
  txo : off x pb = true
  ty : ints H y = some p.2
  tyo : off y pb = true
  le : fr.length ≤ n
theorem map_int_inj {l m : List Int} (h : l.map (AV.int .i64) = m.map (.int .i64)) : l = m := by
  have := congrArg toInts h
  rw [toInts_map, toInts_map] at this
  exact Option.some.inj this
theorem P161.uniq {H : Hp} {pb pv n b1 v1 b2 v2 : Nat} {at1 fr : List Int} {p : List Int × List Int} {fv x y : AV} {at2 fr2 : List Int} {p2 : List Int × List Int} {fv2 x2 y2 : AV} (h : P161 H pb pv n b1 v1 b2 v2 at1 fr p fv x y) (k : P161 H pb pv n b1 v1 b2 v2 at2 fr2 p2 fv2 x2 y2) : at1 = at2 ∧ fr = fr2 ∧ p = p2 := by
  have e1 := h.blk
  rw [k.blk] at e1
  have e2 := h.fl
  rw [k.fl] at e2
  cases e2
  have e3 := h.fi
  rw [k.fi] at e3
  have e4 := h.tl
  rw [k.tl] at e4
  cases e4
  have e5 := h.tx
  rw [k.tx] at e5
  have e6 := h.ty
  rw [k.ty] at e6
  simp only [Option.some.injEq, Blk.mk.injEq, true_and, and_true] at e1
  refine ⟨(map_int_inj e1).symm, (Option.some.inj e3).symm, ?_⟩
  have a1 := Option.some.inj e5
  have a2 := Option.some.inj e6
  exact (Prod.ext a1 a2).symm
/- Walks: tensors, made number by number. -/
theorem prodW_nonneg : ∀ (l : List Int) (n : Int) (k : Nat), k + l.length ≤ 4 → (∀ j : Nat, j < l.length → 0 ≤ nth l j ∧ nth l j ≤ 32) → 0 ≤ n → n ≤ ((32 ^ k : Nat) : Int) → 0 ≤ prodW n l := by
  intro l
  induction l with
  | nil => intro n k _ _ h _; exact h
  | cons x l ih =>
    intro n k hk hr h0 hP
    simp only [prodW]
    have hx := hr 0 (by simp)
    have hx' : 0 ≤ x ∧ x ≤ 32 := by simpa [nth] using hx
    have hk1 := pow32 k (by simp at hk; omega)
    have hk2 := pow32 (k + 1) (by simp at hk; omega)
    have hpk : ((32 ^ (k + 1) : Nat) : Int) = ((32 ^ k : Nat) : Int) * 32 := by rw [Nat.pow_succ]; simp
    have hPx := mul_rng (a := n) (b := x) (A := ((32 ^ k : Nat) : Int)) (B := 32) ⟨h0, hP⟩ hx'
    rw [w_id (x := n * x) (by omega)]
    exact ih _ (k + 1) (by simp at hk; omega) (fun j hj => by simpa [nth] using hr (j + 1) (by simpa using hj)) hPx.1 (by omega)
theorem sizeOf_nonneg (l : List Int) : 0 ≤ sizeOf l := by
  unfold sizeOf
  split
  · rename_i h
    obtain ⟨h4, hr⟩ := shapeOK_rng h
    exact prodW_nonneg l 1 0 (by omega) hr (by omega) (by simp)
  · omega
def madeL (fn : List Int → Int) (s : List Int) : List Int := (List.range (sizeOf s).toNat).map fun (i : Nat) => fn (meshAt s (i : Int))
theorem madeL_len (fn : List Int → Int) (s : List Int) : (madeL fn s).length = (sizeOf s).toNat := by simp [madeL]
/- Walks: filled tensors; parts of tensors. -/
@[simp] theorem xdo_mkf {E : Env} {sh : Bool} {s : Sl} {H : Hp} (g : Nat) (caps : Array Operand) : xdo E T sh (.makeFunc (.func g) #[] caps) s H = some (.func g (caps.toList.map (ev s)), H) := by simp [xdo, aop]
/- Walks: what may be cut out; slices of tensors; a device's part. -/
def slGo : List Int → List Int → List Int → Int
  | n :: s, a :: f, z :: q => if a < 0 ∨ n < a ∨ z < 0 ∨ w (n - a) < z then 1 else slGo s f q
  | _, _, _ => 0
/-- May it be cut out? -/
def slicedL (s f q : List Int) : Int := if f.length ≠ s.length ∨ q.length ≠ s.length then 1 else slGo s f q
def F160 (args : List AV) (H : Hp) : Option AV := match args with
  | [a, b, c] => (ints H a).bind fun s => (ints H b).bind fun f => (ints H c).map fun q => .int .i64 (slicedL s f q)
  | _ => none
@[simp] theorem F160_at (a b c : AV) (H : Hp) : F160 [a, b, c] H = (ints H a).bind fun s => (ints H b).bind fun f => (ints H c).map fun q => .int .i64 (slicedL s f q) := rfl
/- Walks: a device's part. -/
/- Lists of tensors, and of other things of several cells. -/
/-- A list that was made by append: n elements of es cells. -/
def trG (n es : Nat) (cs : List Tr) : Tr := if n = 0 then .at .nilS else .sl n es false cs
def abs45 (v : AV) (H : Hp) : Option (AV × Hp) := (afill (fun j => some (j * 2, 2)) [.nilS, .nilS] [(0, v)]).map fun cs => (.sl H.bs.length H.c 0 1 2 true, H.new cs)
@[simp] theorem xdo_bs45 {E : Env} {sh : Bool} {s : Sl} {H : Hp} (x : Operand) : xdo E T sh (.buildSlice 45 1 #[(0, x)]) s H = abs45 (ev s x) H := by
  simp [xdo, aop, D45, T40, rep, abs45]
/- Plain laws: a device's part lies in its tensor. -/
theorem prodW_pos_le : ∀ (l : List Int) (n : Int), meshGo n l = true → prodW n l ≤ 8 := by
  intro l
  induction l with
  | nil => intro n h; simpa [meshGo, prodW] using h
  | cons k l ih =>
    intro n h
    simp only [meshGo] at h
    split at h
    · cases h
    · exact ih _ h
theorem devs_le (l : List Int) : devs l ≤ 8 := by
  unfold devs
  split
  · rename_i h
    unfold meshOK at h
    split at h
    · cases h
    · exact prodW_pos_le l 1 h
  · omega
theorem pow8 (k : Nat) (h : k ≤ 3) : ((8 ^ k : Nat) : Int) ≤ 512 := by
  have : 8 ^ k ≤ 8 ^ 3 := Nat.pow_le_pow_right (by decide) h
  have h4 : (8 : Nat) ^ 3 = 512 := by decide
  omega
theorem prodW_pos : ∀ (l : List Int) (n : Int) (k : Nat), k + l.length ≤ 3 → (∀ j : Nat, j < l.length → 1 ≤ nth l j ∧ nth l j ≤ 8) → 1 ≤ n → n ≤ ((8 ^ k : Nat) : Int) → 1 ≤ prodW n l := by
  intro l
  induction l with
  | nil => intro n k _ _ h _; exact h
  | cons x l ih =>
    intro n k hk hr h0 hP
    simp only [prodW]
    have hx := hr 0 (by simp)
    have hx' : 1 ≤ x ∧ x ≤ 8 := by simpa [nth] using hx
    have hk1 := pow8 k (by simp at hk; omega)
    have hk2 := pow8 (k + 1) (by simp at hk; omega)
    have hpk : ((8 ^ (k + 1) : Nat) : Int) = ((8 ^ k : Nat) : Int) * 8 := by rw [Nat.pow_succ]; simp
    have hPx := mul_rng (a := n) (b := x) (A := ((8 ^ k : Nat) : Int)) (B := 8) (by omega) (by omega)
    have hlow : n * 1 ≤ n * x := Int.mul_le_mul_of_nonneg_left hx'.1 (by omega)
    rw [w_id (x := n * x) (by omega)]
    exact ih _ (k + 1) (by simp at hk; omega) (fun j hj => by simpa [nth] using hr (j + 1) (by simpa using hj)) (by omega) (by omega)
theorem devs_pos {l : List Int} (h : meshOK l = true) : 1 ≤ devs l := by
  unfold devs
  rw [if_pos h]
  obtain ⟨h3, hr⟩ := meshOK_pos h
  exact prodW_pos l 1 0 (by omega) hr (by omega) (by simp)
/-- A part's numbers. -/
noncomputable def partD (p : List Int × List Int) (sz sp : List Int) (d : Int) : List Int := madeL (fun at1 => atT p (addL at1 (fromL p.1 sz sp d))) (sizeL p.1 sz sp d)
/- Walks: all devices' parts. -/
/- Plain laws: places that lie in a shape; the least device. -/
/- Lists of tensors, read. -/
def tensG (H : Hp) : List AV → Option (List (List Int × List Int))
  | [] => some []
  | x :: y :: l => (tens H (.agg [x, y])).bind fun p => (tensG H l).map fun L => p :: L
  | _ => none
/-- The tensors of a list. -/
def tensL (H : Hp) (v : AV) : Option (List (List Int × List Int)) := match v with
  | .nilS => some []
  | .mtS => some []
  | .sl b ver off n es _ => if es = 2 ∧ n ≤ 2932031007402 then (H.at b ver).bind fun k => if off + n * 2 ≤ k.cells.length then tensG H ((k.cells.drop off).take (n * 2)) else none else none
  | _ => none
abbrev TS := List Int × List Int
/- Functions in short form. -/
/-! parquetry/parquetryref14.At (2 parameters; calls 20 parquetry/parquetryref14.Devices) -/
/-! parquetry/parquetryref14.Of (2 parameters; calls 56 parquetry/parquetryref14.Right) -/
/-! parquetry/parquetryref14.First (3 parameters; calls 20 parquetry/parquetryref14.Devices, 58 parquetry/parquetryref14.Spec, 98 parquetry/parquetryref14.At, 127 parquetry/parquetryref14.Of) -/
/- Walks: where a device is, in the document; slices.Equal; the least device that has the same part. -/
def F98 (args : List AV) (H : Hp) : Option (AV × Hp) := match args with
  | [a, .int .i64 d] => (ints H a).map fun sz => if d < 0 ∨ devs sz ≤ d then (.nilS, H) else mkF H (meshAt sz d)
  | _ => none
@[simp] theorem F98_at (a : AV) (d : Int) (H : Hp) : F98 [a, .int .i64 d] H = (ints H a).map fun sz => if d < 0 ∨ devs sz ≤ d then (.nilS, H) else mkF H (meshAt sz d) := rfl
/- Functions in short form. -/
/-! parquetry/parquetryref14.may (3 parameters; calls 56 parquetry/parquetryref14.Right, 58 parquetry/parquetryref14.Spec, 101 parquetry/parquetryref1.Right) -/
/-! parquetry/parquetryref14.Width (2 parameters; calls none) -/
/-! parquetry/parquetryref14.Cut (3 parameters; calls 140 parquetry/parquetryref14.Width) -/
/-! parquetry/parquetryref14.Tile (4 parameters; calls 20 parquetry/parquetryref14.Devices, 85 parquetry/parquetryref14.may, 98 parquetry/parquetryref14.At, 99 parquetry/parquetryref14.Cut) -/
/-! parquetry/parquetryref1.Place (2 parameters; calls 100 parquetry/parquetryref1.Size) -/
/-! parquetry/parquetryref1.Index (2 parameters; calls 101 parquetry/parquetryref1.Right) -/
/-! parquetry/parquetrylaw17.SplitFirsts (2 parameters; calls 23 parquetry/parquetryref14.Copies, 31 parquetry/parquetrylaw17.made, 36 parquetry/parquetrylaw17.known, 37 parquetry/split.All, 38 parquetry/split.Join, 39 parquetry/parquetryref1.Same, 40 parquetry/parquetryref14.Tile, 41 parquetry/parquetryref1.Place, 42 parquetry/parquetryref1.Index) -/
/- Plain laws: numbers of places, there and back. -/
section
variable {s : List Int} (h4 : s.length ≤ 4) (hr : ∀ j : Nat, j < s.length → 1 ≤ nth s j ∧ nth s j ≤ 32)
include h4 hr
omit h4 in
end
/- Plain laws: a device's part, axis by axis; each place lies in some device's part. -/
/-! ### each number lies in a part -/
/- Walks: the document's parts of a length, of a tensor; its places. -/
def widthR (n k : Int) : Int := if n < 0 ∨ k < 1 then 0 else if 0 < n.tmod k then w (w (n.tdiv k) + 1) else w (n.tdiv k)
def F140 (args : List AV) (_ : Hp) : Option AV := match args with
  | [.int .i64 n, .int .i64 k] => some (.int .i64 (widthR n k))
  | _ => none
@[simp] theorem F140_at (n k : Int) (H : Hp) : F140 [.int .i64 n, .int .i64 k] H = some (.int .i64 (widthR n k)) := rfl
def cutR1 (n W i : Int) : Int := if W = 0 ∨ i ≤ w (n.tdiv W) then (if w (i * W) ≤ n then w (i * W) else n) else n
def cutR2 (n W f : Int) : Int := if W ≤ w (n - f) then w (f + W) else n
def cutR (n k i : Int) : Int × Int := if n < 0 ∨ k < 1 ∨ i < 0 ∨ k ≤ i then (0, 0) else (cutR1 n (widthR n k) i, cutR2 n (widthR n k) (cutR1 n (widthR n k) i))
def F99 (args : List AV) (_ : Hp) : Option AV := match args with
  | [.int .i64 n, .int .i64 k, .int .i64 i] => some (.tup [.int .i64 (cutR n k i).1, .int .i64 (cutR n k i).2])
  | _ => none
@[simp] theorem F99_at (n k i : Int) (H : Hp) : F99 [.int .i64 n, .int .i64 k, .int .i64 i] H = some (.tup [.int .i64 (cutR n k i).1, .int .i64 (cutR n k i).2]) := rfl
/-- May a shape be parted so? -/
def mayS (s sz sp : List Int) : Bool := shapeOK s && meshOK sz && specOK sz sp s.length
def F85 (args : List AV) (H : Hp) : Option AV := match args with
  | [a, b, c] => (ints H a).bind fun s => (ints H b).bind fun sz => (ints H c).map fun sp => .bool (mayS s sz sp)
  | _ => none
@[simp] theorem F85_at (a b c : AV) (H : Hp) : F85 [a, b, c] H = (ints H a).bind fun s => (ints H b).bind fun sz => (ints H c).map fun sp => .bool (mayS s sz sp) := rfl
/-! ### the document's places -/
/-! ### a list that grows beside others -/
/- What a function has made, told at once: values, each with its tree. -/
mutual
/-- As Rep, of any time. -/
def RX (H : Hp) : Tr → AV → List (Nat × Nat) → Prop
  | .at a, v, bs => v = a ∧ bs = []
  | .sl n es full cs, v, bs => ∃ b ver vs bs', v = .sl b ver 0 n es full ∧ H.at b ver = some ⟨ver, vs, true, true⟩ ∧ RXs H cs vs bs' ∧ bs = bs' ++ [(b, ver)]
  | .bx cs, v, bs => ∃ b ver vs bs', v = .ptr b ver 0 ∧ H.at b ver = some ⟨ver, vs, true, true⟩ ∧ RXs H cs vs bs' ∧ bs = bs' ++ [(b, ver)]
  | .agg cs, v, bs => ∃ vs, v = .agg vs ∧ RXs H cs vs bs
  | .tup cs, v, bs => ∃ vs, v = .tup vs ∧ RXs H cs vs bs
def RXs (H : Hp) : List Tr → List AV → List (Nat × Nat) → Prop
  | [], vs, bs => vs = [] ∧ bs = []
  | t :: l, vs, bs => ∃ v vs' b1 b2, vs = v :: vs' ∧ RX H t v b1 ∧ RXs H l vs' b2 ∧ bs = b1 ++ b2
end
mutual
theorem RX.keep {H H' : Hp} : ∀ (t : Tr) {v : AV} {bs : List (Nat × Nat)}, (∀ p ∈ bs, Keeps H H' p.1 p.2) → RX H t v bs → RX H' t v bs
  | .at a, v, bs, hn, h => by simpa only [RX] using h
  | .sl n es full cs, v, bs, hn, h => by
    simp only [RX] at h ⊢
    obtain ⟨b, ver, vs, bs', e1, e3, e4, rfl⟩ := h
    exact ⟨b, ver, vs, bs', e1, hn (b, ver) (by simp) _ e3, RXs.keep cs (fun p hp => hn p (by simp [hp])) e4, rfl⟩
  | .bx cs, v, bs, hn, h => by
    simp only [RX] at h ⊢
    obtain ⟨b, ver, vs, bs', e1, e3, e4, rfl⟩ := h
    exact ⟨b, ver, vs, bs', e1, hn (b, ver) (by simp) _ e3, RXs.keep cs (fun p hp => hn p (by simp [hp])) e4, rfl⟩
  | .agg cs, v, bs, hn, h => by
    simp only [RX] at h ⊢
    obtain ⟨vs, e1, e4⟩ := h
    exact ⟨vs, e1, RXs.keep cs hn e4⟩
  | .tup cs, v, bs, hn, h => by
    simp only [RX] at h ⊢
    obtain ⟨vs, e1, e4⟩ := h
    exact ⟨vs, e1, RXs.keep cs hn e4⟩
theorem RXs.keep {H H' : Hp} : ∀ (l : List Tr) {vs : List AV} {bs : List (Nat × Nat)}, (∀ p ∈ bs, Keeps H H' p.1 p.2) → RXs H l vs bs → RXs H' l vs bs
  | [], vs, bs, hn, h => by simpa only [RXs] using h
  | t :: l, vs, bs, hn, h => by
    simp only [RXs] at h ⊢
    obtain ⟨v, vs', b1, b2, e1, e2, e3, rfl⟩ := h
    exact ⟨v, vs', b1, b2, e1, RX.keep t (fun p hp => hn p (by simp [hp])) e2, RXs.keep l (fun p hp => hn p (by simp [hp])) e3, rfl⟩
end
mutual
theorem RX.of {c : Nat} {H : Hp} : ∀ (t : Tr) {v : AV} {bs : List (Nat × Nat)}, Rep c H t v bs → RX H t v bs ∧ ∀ p ∈ bs, c ≤ p.2
  | .at a, v, bs, h => by simp only [Rep, RX] at h ⊢; exact ⟨⟨h.1, h.2.1⟩, by simp [h.2.1]⟩
  | .sl n es full cs, v, bs, h => by
    simp only [Rep, RX] at h ⊢
    obtain ⟨b, ver, vs, bs', e1, e2, e3, e4, rfl⟩ := h
    obtain ⟨g1, g2⟩ := RXs.of cs e4
    exact ⟨⟨b, ver, vs, bs', e1, e3, g1, rfl⟩, fun p hp => (List.mem_append.1 hp).elim (g2 p) fun hp => by simp at hp; subst hp; exact e2⟩
  | .bx cs, v, bs, h => by
    simp only [Rep, RX] at h ⊢
    obtain ⟨b, ver, vs, bs', e1, e2, e3, e4, rfl⟩ := h
    obtain ⟨g1, g2⟩ := RXs.of cs e4
    exact ⟨⟨b, ver, vs, bs', e1, e3, g1, rfl⟩, fun p hp => (List.mem_append.1 hp).elim (g2 p) fun hp => by simp at hp; subst hp; exact e2⟩
  | .agg cs, v, bs, h => by
    simp only [Rep, RX] at h ⊢
    obtain ⟨vs, e1, e4⟩ := h
    obtain ⟨g1, g2⟩ := RXs.of cs e4
    exact ⟨⟨vs, e1, g1⟩, g2⟩
  | .tup cs, v, bs, h => by
    simp only [Rep, RX] at h ⊢
    obtain ⟨vs, e1, e4⟩ := h
    obtain ⟨g1, g2⟩ := RXs.of cs e4
    exact ⟨⟨vs, e1, g1⟩, g2⟩
theorem RXs.of {c : Nat} {H : Hp} : ∀ (l : List Tr) {vs : List AV} {bs : List (Nat × Nat)}, Reps c H l vs bs → RXs H l vs bs ∧ ∀ p ∈ bs, c ≤ p.2
  | [], vs, bs, h => by simp only [Reps, RXs] at h ⊢; exact ⟨h, by simp [h.2]⟩
  | t :: l, vs, bs, h => by
    simp only [Reps, RXs] at h ⊢
    obtain ⟨v, vs', b1, b2, e1, e2, e3, rfl⟩ := h
    obtain ⟨g1, g2⟩ := RX.of t e2
    obtain ⟨g3, g4⟩ := RXs.of l e3
    exact ⟨⟨v, vs', b1, b2, e1, g1, g3, rfl⟩, fun p hp => (List.mem_append.1 hp).elim (g2 p) (g4 p)⟩
end
mutual
theorem RX.rep {c : Nat} {H : Hp} : ∀ (t : Tr) {v : AV} {bs : List (Nat × Nat)}, okT c t = true → (∀ p ∈ bs, c ≤ p.2) → RX H t v bs → Rep c H t v bs
  | .at a, v, bs, ho, hb, h => by simp only [Rep, RX, okT] at h ho ⊢; exact ⟨h.1, h.2, ho⟩
  | .sl n es full cs, v, bs, ho, hb, h => by
    simp only [Rep, RX, okT] at h ho ⊢
    obtain ⟨b, ver, vs, bs', e1, e3, e4, rfl⟩ := h
    exact ⟨b, ver, vs, bs', e1, hb (b, ver) (by simp), e3, RXs.rep cs ho (fun p hp => hb p (by simp [hp])) e4, rfl⟩
  | .bx cs, v, bs, ho, hb, h => by
    simp only [Rep, RX, okT] at h ho ⊢
    obtain ⟨b, ver, vs, bs', e1, e3, e4, rfl⟩ := h
    exact ⟨b, ver, vs, bs', e1, hb (b, ver) (by simp), e3, RXs.rep cs ho (fun p hp => hb p (by simp [hp])) e4, rfl⟩
  | .agg cs, v, bs, ho, hb, h => by
    simp only [Rep, RX, okT] at h ho ⊢
    obtain ⟨vs, e1, e4⟩ := h
    exact ⟨vs, e1, RXs.rep cs ho hb e4⟩
  | .tup cs, v, bs, ho, hb, h => by
    simp only [Rep, RX, okT] at h ho ⊢
    obtain ⟨vs, e1, e4⟩ := h
    exact ⟨vs, e1, RXs.rep cs ho hb e4⟩
theorem RXs.rep {c : Nat} {H : Hp} : ∀ (l : List Tr) {vs : List AV} {bs : List (Nat × Nat)}, okTs c l = true → (∀ p ∈ bs, c ≤ p.2) → RXs H l vs bs → Reps c H l vs bs
  | [], vs, bs, ho, hb, h => by simpa only [Reps, RXs] using h
  | t :: l, vs, bs, ho, hb, h => by
    simp only [Reps, RXs, okTs, Bool.and_eq_true] at h ho ⊢
    obtain ⟨v, vs', b1, b2, e1, e2, e3, rfl⟩ := h
    exact ⟨v, vs', b1, b2, e1, RX.rep t ho.1 (fun p hp => hb p (by simp [hp])) e2, RXs.rep l ho.2 (fun p hp => hb p (by simp [hp])) e3, rfl⟩
end
mutual
theorem RX.live {H : Hp} : ∀ (t : Tr) {v : AV} {bs : List (Nat × Nat)}, RX H t v bs → ∀ p ∈ bs, ∃ cs, H.at p.1 p.2 = some ⟨p.2, cs, true, true⟩
  | .at a, v, bs, h => by simp only [RX] at h; simp [h.2]
  | .sl n es full cs, v, bs, h => by
    simp only [RX] at h
    obtain ⟨b, ver, vs, bs', e1, e3, e4, rfl⟩ := h
    intro p hp
    rcases List.mem_append.1 hp with hp | hp
    · exact RXs.live cs e4 p hp
    · simp at hp; subst hp; exact ⟨_, e3⟩
  | .bx cs, v, bs, h => by
    simp only [RX] at h
    obtain ⟨b, ver, vs, bs', e1, e3, e4, rfl⟩ := h
    intro p hp
    rcases List.mem_append.1 hp with hp | hp
    · exact RXs.live cs e4 p hp
    · simp at hp; subst hp; exact ⟨_, e3⟩
  | .agg cs, v, bs, h => by simp only [RX] at h; obtain ⟨vs, _, h⟩ := h; exact RXs.live cs h
  | .tup cs, v, bs, h => by simp only [RX] at h; obtain ⟨vs, _, h⟩ := h; exact RXs.live cs h
theorem RXs.live {H : Hp} : ∀ (l : List Tr) {vs : List AV} {bs : List (Nat × Nat)}, RXs H l vs bs → ∀ p ∈ bs, ∃ cs, H.at p.1 p.2 = some ⟨p.2, cs, true, true⟩
  | [], vs, bs, h => by simp only [RXs] at h; simp [h.2]
  | t :: l, vs, bs, h => by
    simp only [RXs] at h
    obtain ⟨v, vs', b1, b2, e1, e2, e3, rfl⟩ := h
    intro p hp
    exact (List.mem_append.1 hp).elim (RX.live t e2 p) (RXs.live l e3 p)
end
mutual
theorem RX.uniq {H : Hp} : ∀ (t : Tr) {v : AV} {b b' : List (Nat × Nat)}, RX H t v b → RX H t v b' → b = b'
  | .at a, v, b, b', h, k => by simp only [RX] at h k; rw [h.2, k.2]
  | .sl n es full cs, v, b, b', h, k => by
    simp only [RX] at h k
    obtain ⟨b0, ver, vs, bs', rfl, e3, e4, rfl⟩ := h
    obtain ⟨b1, ver1, vs1, bs1, e, f3, f4, rfl⟩ := k
    cases e
    rw [e3] at f3
    cases f3
    rw [RXs.uniq cs e4 f4]
  | .bx cs, v, b, b', h, k => by
    simp only [RX] at h k
    obtain ⟨b0, ver, vs, bs', rfl, e3, e4, rfl⟩ := h
    obtain ⟨b1, ver1, vs1, bs1, e, f3, f4, rfl⟩ := k
    cases e
    rw [e3] at f3
    cases f3
    rw [RXs.uniq cs e4 f4]
  | .agg cs, v, b, b', h, k => by
    simp only [RX] at h k
    obtain ⟨vs, rfl, h⟩ := h
    obtain ⟨vs', e, k⟩ := k
    cases e
    exact RXs.uniq cs h k
  | .tup cs, v, b, b', h, k => by
    simp only [RX] at h k
    obtain ⟨vs, rfl, h⟩ := h
    obtain ⟨vs', e, k⟩ := k
    cases e
    exact RXs.uniq cs h k
theorem RXs.uniq {H : Hp} : ∀ (l : List Tr) {vs : List AV} {b b' : List (Nat × Nat)}, RXs H l vs b → RXs H l vs b' → b = b'
  | [], vs, b, b', h, k => by simp only [RXs] at h k; rw [h.2, k.2]
  | t :: l, vs, b, b', h, k => by
    simp only [RXs] at h k
    obtain ⟨v, vs', b1, b2, rfl, e2, e3, rfl⟩ := h
    obtain ⟨v1, vs1, c1, c2, e, f2, f3, rfl⟩ := k
    cases e
    rw [RX.uniq t e2 f2, RXs.uniq l e3 f3]
end
theorem RXs.len {H : Hp} : ∀ (l : List Tr) {vs : List AV} {bs : List (Nat × Nat)}, RXs H l vs bs → vs.length = l.length := by
  intro l
  induction l with
  | nil => intro vs bs h; simp only [RXs] at h; rw [h.1]; rfl
  | cons t l ih =>
    intro vs bs h
    simp only [RXs] at h
    obtain ⟨v, vs', b1, b2, rfl, _, h2, _⟩ := h
    simp [ih h2]
theorem RXs.app {H : Hp} : ∀ (l m : List Tr) {vs : List AV} {bs : List (Nat × Nat)}, RXs H (l ++ m) vs bs ↔ ∃ v1 v2 b1 b2, vs = v1 ++ v2 ∧ bs = b1 ++ b2 ∧ RXs H l v1 b1 ∧ RXs H m v2 b2 := by
  intro l
  induction l with
  | nil =>
    intro m vs bs
    simp only [List.nil_append, RXs]
    constructor
    · intro h; exact ⟨[], vs, [], bs, rfl, rfl, ⟨rfl, rfl⟩, h⟩
    · rintro ⟨v1, v2, b1, b2, rfl, rfl, ⟨rfl, rfl⟩, h⟩; exact h
  | cons t l ih =>
    intro m vs bs
    simp only [List.cons_append, RXs]
    constructor
    · rintro ⟨v, vs', b1, b2, rfl, h1, h2, rfl⟩
      obtain ⟨v1, v2, b3, b4, rfl, rfl, h3, h4⟩ := (ih m).1 h2
      exact ⟨v :: v1, v2, b1 ++ b3, b4, rfl, by simp, ⟨v, v1, b1, b3, rfl, h1, h3, rfl⟩, h4⟩
    · rintro ⟨v1, v2, b3, b4, rfl, rfl, ⟨v, vs', b1, b2, rfl, h1, h2, rfl⟩, h4⟩
      exact ⟨v, vs' ++ v2, b1, b2 ++ b4, rfl, h1, (ih m).2 ⟨vs', v2, b2, b4, rfl, rfl, h2, h4⟩, by simp⟩
theorem RXs.leaves {H : Hp} : ∀ (l : List AV), RXs H (l.map .at) l [] := by
  intro l
  induction l with
  | nil => simp [RXs]
  | cons a l ih => simp only [List.map_cons, RXs, RX]; exact ⟨a, l, [], [], rfl, ⟨rfl, rfl⟩, ih, rfl⟩
/-- One of many. -/
theorem RXs.pick {H : Hp} : ∀ (ts : List Tr) {vs : List AV} {bs : List (Nat × Nat)}, RXs H ts vs bs → ∀ (i : Nat) (t : Tr), ts[i]? = some t → ∃ v b1 b b2, vs[i]? = some v ∧ bs = b1 ++ (b ++ b2) ∧ RX H t v b ∧
    (∀ (H' : Hp) (t' : Tr) (v' : AV) (b' : List (Nat × Nat)), RX H' t' v' b' → (∀ p, p ∈ b1 ∨ p ∈ b2 → Keeps H H' p.1 p.2) → RXs H' (ts.set i t') (vs.set i v') (b1 ++ (b' ++ b2))) ∧ RXs H (ts.eraseIdx i) (vs.eraseIdx i) (b1 ++ b2) := by
  intro ts
  induction ts with
  | nil => intro vs bs h i t hi; simp at hi
  | cons t0 ts ih =>
    intro vs bs h i t hi
    simp only [RXs] at h
    obtain ⟨v, vs', b1, b2, rfl, h1, h2, rfl⟩ := h
    cases i with
    | zero =>
      simp at hi; subst hi
      refine ⟨v, [], b1, b2, by simp, by simp, h1, fun H' t' v' b' h' hk => ?_, by simpa using h2⟩
      simp only [List.set_cons_zero, RXs, List.nil_append]
      exact ⟨v', vs', b', b2, rfl, h', RXs.keep ts (fun p hp => hk p (.inr hp)) h2, rfl⟩
    | succ i =>
      obtain ⟨v1, c1, c, c2, g1, rfl, g3, g4, g5⟩ := ih h2 i t (by simpa using hi)
      refine ⟨v1, b1 ++ c1, c, c2, by simpa using g1, by simp, g3, fun H' t' v' b' h' hk => ?_, ?_⟩
      · simp only [List.set_cons_succ, RXs]
        exact ⟨v, vs'.set i v', b1, c1 ++ (b' ++ c2), rfl, RX.keep t0 (fun p hp => hk p (by simp [hp])) h1, g4 H' t' v' b' h' (fun p hp => hk p (hp.elim (fun h => .inl (by simp [h])) .inr)), by simp⟩
      · simp only [List.eraseIdx_cons_succ, RXs]
        exact ⟨v, vs'.eraseIdx i, b1, c1 ++ c2, rfl, h1, g5, by simp⟩
theorem erase_map {α β : Type} (f : α → β) : ∀ (l : List α) (i : Nat), (l.map f).eraseIdx i = (l.eraseIdx i).map f := by
  intro l
  induction l with
  | nil => intro i; simp
  | cons a l ih => intro i; cases i with | zero => simp | succ i => simp [ih]
theorem set_get {α : Type} {l : List α} {j : Nat} {x : α} (h : l[j]? = some x) : l.set j x = l := by
  refine List.ext_getElem? fun n => ?_
  by_cases hn : j = n
  · subst hn
    have := (List.getElem?_eq_some_iff.1 h).1
    rw [List.getElem?_set_self this, h]
  · rw [List.getElem?_set_ne hn]
/-! ### what lies in memory beside what came in -/
structure Bs where
  H : Hp
  A : List (Nat × Nat)
/-- What came in stands, but for what may be written. -/
structure Fm (B : Bs) (H : Hp) : Prop where
  pre : ∀ (b : Nat) (k : Blk), B.H.bs[b]? = some k → (b, k.ver) ∉ B.A → H.bs[b]? = some k
  wf : Wf H
  c : B.H.c ≤ H.c
  len : B.H.bs.length ≤ H.bs.length
abbrev Lo := List (AV × Tr)
structure SL (B : Bs) (L : Lo) (H : Hp) : Prop where
  w0 : Wf B.H
  fm : Fm B H
  rx : ∃ bs, RXs H (L.map Prod.snd) (L.map Prod.fst) bs ∧ bs.Nodup ∧ ∀ p ∈ bs, B.H.c ≤ p.2 ∨ p ∈ B.A
/-- A step that leaves all alone but bi. -/
structure Stp (bi : List (Nat × Nat)) (H H' : Hp) : Prop where
  k : ∀ b ver, (b, ver) ∉ bi → Keeps H H' b ver
  wf : Wf H'
  c : H.c ≤ H'.c
  len : H.bs.length ≤ H'.bs.length
section
variable {B : Bs} {L : Lo} {H : Hp}
theorem SL.ext (h : SL B L H) (hA : B.A = []) : Ext B.H H := ⟨fun b k hk => h.fm.pre b k hk (by simp [hA]), h.fm.wf, h.fm.c⟩
theorem Fm.step {bi : List (Nat × Nat)} {H' : Hp} (h0 : Wf B.H) (h : Fm B H) (hs : Stp bi H H') (hb : ∀ p ∈ bi, B.H.c ≤ p.2 ∨ p ∈ B.A) : Fm B H' := by
  refine ⟨fun b k hk hA => ?_, hs.wf, Nat.le_trans h.c hs.c, Nat.le_trans h.len hs.len⟩
  have h1 := h.pre b k hk hA
  have h2 : H.at b k.ver = some k := by simp [Hp.at, h1]
  have hlt := h0 b k hk
  have : (b, k.ver) ∉ bi := fun hm => by
    rcases hb _ hm with h | h
    · simp only at h; omega
    · exact hA h
  exact (Hp.at_some (hs.k b k.ver this k h2)).1
theorem lt_of_at (hw : Wf H) {b ver : Nat} {k : Blk} (h : H.at b ver = some k) : ver < H.c := at_lt hw h
theorem getE {α β : Type} {f : α → β} {l : List α} {i : Nat} {x : α} (h : l[i]? = some x) : (l.map f)[i]? = some (f x) := by simp [h]
theorem nodup_perm {a b : List (Nat × Nat)} (h : a.Nodup) (hp : ∀ x, a.count x = b.count x) : b.Nodup := (List.perm_iff_count.2 hp).nodup_iff.1 h
/-- One value is made another. -/
theorem SL.upd (h : SL B L H) (i : Nat) {u u' : AV} {t t' : Tr} {H' : Hp} (hi : L[i]? = some (u, t))
    (hs : ∀ bi, RX H t u bi → bi.Nodup → ∃ bi', RX H' t' u' bi' ∧ bi'.Nodup ∧ (∀ p ∈ bi', p ∈ bi ∨ H.c ≤ p.2) ∧ Stp bi H H') : SL B (L.set i (u', t')) H' := by
  obtain ⟨bs, h1, h2, h3⟩ := h.rx
  obtain ⟨v, b1, b, b2, g1, rfl, g3, g4, _⟩ := RXs.pick _ h1 i t (getE hi)
  have : v = u := by rw [getE hi] at g1; exact (Option.some.inj g1).symm
  subst this
  have hn := List.nodup_append.1 h2
  have hn2 := List.nodup_append.1 hn.2.1
  obtain ⟨b', r', n', f', st⟩ := hs b g3 hn2.1
  have hlive := RXs.live _ h1
  have hlt : ∀ p ∈ b1 ++ (b ++ b2), p.2 < H.c := fun p hp => by
    obtain ⟨cs, hcs⟩ := hlive p hp
    exact lt_of_at h.fm.wf hcs
  refine ⟨h.w0, h.fm.step h.w0 st (fun p hp => h3 p (by simp [hp])), b1 ++ (b' ++ b2), ?_, ?_, ?_⟩
  · rw [List.map_set, List.map_set]
    refine g4 H' t' u' b' r' fun p hp => st.k p.1 p.2 fun hm => ?_
    rcases hp with hp | hp
    · exact hn.2.2 p hp p (by simp [hm]) rfl
    · exact hn2.2.2 p hm p hp rfl
  · refine List.nodup_append.2 ⟨hn.1, List.nodup_append.2 ⟨n', hn2.2.1, ?_⟩, ?_⟩
    · intro x hx y hy e
      subst e
      rcases f' x hx with h | h
      · exact hn2.2.2 x h x hy rfl
      · have := hlt x (by simp [hy]); omega
    · intro x hx y hy e
      subst e
      rcases List.mem_append.1 hy with hy | hy
      · rcases f' x hy with h | h
        · exact hn.2.2 x hx x (by simp [h]) rfl
        · have := hlt x (by simp [hx]); omega
      · exact hn.2.2 x hx x (by simp [hy]) rfl
  · intro p hp
    rcases List.mem_append.1 hp with hp | hp
    · exact h3 p (by simp [hp])
    · rcases List.mem_append.1 hp with hp | hp
      · rcases f' p hp with h' | h'
        · exact h3 p (by simp [h'])
        · left; have := h.fm.c; omega
      · exact h3 p (by simp [hp])
/-- One value more. -/
theorem SL.push (h : SL B L H) {u : AV} {t : Tr} {H' : Hp} {b' : List (Nat × Nat)} (hr : RX H' t u b') (hn : b'.Nodup) (hf : ∀ p ∈ b', H.c ≤ p.2) (hs : Stp [] H H') : SL B ((u, t) :: L) H' := by
  obtain ⟨bs, h1, h2, h3⟩ := h.rx
  refine ⟨h.w0, h.fm.step h.w0 hs (by simp), b' ++ bs, ?_, ?_, ?_⟩
  · simp only [List.map_cons, RXs]
    exact ⟨u, _, b', bs, rfl, hr, RXs.keep _ (fun p _ => hs.k p.1 p.2 (by simp)) h1, rfl⟩
  · refine List.nodup_append.2 ⟨hn, h2, fun x hx y hy e => ?_⟩
    subst e
    obtain ⟨cs, hcs⟩ := RXs.live _ h1 x hy
    have := lt_of_at h.fm.wf hcs
    have := hf x hx
    omega
  · intro p hp
    rcases List.mem_append.1 hp with hp | hp
    · left; have := hf p hp; have := h.fm.c; omega
    · exact h3 p hp
theorem Stp.of {H' : Hp} (hp : Pre H H') (hw : Wf H') (hc : H.c ≤ H'.c) (hl : H.bs.length ≤ H'.bs.length) : Stp [] H H' := ⟨fun b ver _ => Keeps.pre hp b ver, hw, hc, hl⟩
theorem SL.leaf (h : SL B L H) (a : AV) : SL B ((a, .at a) :: L) H :=
  h.push (b' := []) (by simp [RX]) List.nodup_nil (by simp) ⟨fun b ver _ => fun _ hk => hk, h.fm.wf, Nat.le_refl _, Nat.le_refl _⟩
/-- A value comes to the front. -/
theorem SL.front (h : SL B L H) {i : Nat} {x : AV × Tr} (hi : L[i]? = some x) : SL B (x :: L.eraseIdx i) H := by
  obtain ⟨bs, h1, h2, h3⟩ := h.rx
  obtain ⟨v, b1, b, b2, g1, rfl, g3, _, g5⟩ := RXs.pick _ h1 i x.2 (getE hi)
  rw [getE hi] at g1
  cases g1
  refine ⟨h.w0, h.fm, b ++ (b1 ++ b2), ?_, nodup_perm h2 (fun x => by simp only [List.count_append]; omega), fun p hp => h3 p ?_⟩
  · simp only [List.map_cons, RXs, ← erase_map]
    exact ⟨x.1, _, b, b1 ++ b2, rfl, g3, g5, rfl⟩
  · simp only [List.mem_append] at hp ⊢
    rcases hp with h | h | h <;> simp [h]
/-! ### structs and tuples are opened, and closed -/
theorem SL.openA (h : SL B L H) {i : Nat} {v : AV} {ts : List Tr} (hi : L[i]? = some (v, .agg ts)) : ∃ vs, v = .agg vs ∧ vs.length = ts.length ∧ SL B (vs.zip ts ++ L.eraseIdx i) H := by
  have h' := h.front hi
  obtain ⟨bs, h1, h2, h3⟩ := h'.rx
  simp only [List.map_cons, RXs, RX] at h1
  obtain ⟨v', vs', b1, b2, e, ⟨vs, rfl, hr⟩, hr2, rfl⟩ := h1
  cases e
  have hl := RXs.len _ hr
  refine ⟨vs, rfl, hl, h.w0, h.fm, b1 ++ b2, ?_, h2, h3⟩
  rw [List.map_append, List.map_append, List.map_fst_zip (by omega), List.map_snd_zip (by omega)]
  exact (RXs.app _ _).2 ⟨vs, _, b1, b2, rfl, rfl, hr, hr2⟩
theorem SL.openT (h : SL B L H) {i : Nat} {v : AV} {ts : List Tr} (hi : L[i]? = some (v, .tup ts)) : ∃ vs, v = .tup vs ∧ vs.length = ts.length ∧ SL B (vs.zip ts ++ L.eraseIdx i) H := by
  have h' := h.front hi
  obtain ⟨bs, h1, h2, h3⟩ := h'.rx
  simp only [List.map_cons, RXs, RX] at h1
  obtain ⟨v', vs', b1, b2, e, ⟨vs, rfl, hr⟩, hr2, rfl⟩ := h1
  cases e
  have hl := RXs.len _ hr
  refine ⟨vs, rfl, hl, h.w0, h.fm, b1 ++ b2, ?_, h2, h3⟩
  rw [List.map_append, List.map_append, List.map_fst_zip (by omega), List.map_snd_zip (by omega)]
  exact (RXs.app _ _).2 ⟨vs, _, b1, b2, rfl, rfl, hr, hr2⟩
theorem SL.closeA {es : Lo} (h : SL B (es ++ L) H) : SL B ((.agg (es.map Prod.fst), .agg (es.map Prod.snd)) :: L) H := by
  obtain ⟨bs, h1, h2, h3⟩ := h.rx
  rw [List.map_append, List.map_append] at h1
  obtain ⟨v1, v2, b1, b2, e, rfl, r1, r2⟩ := (RXs.app _ _).1 h1
  have hl := RXs.len _ r1
  obtain ⟨rfl, rfl⟩ := List.append_inj e (by simp at hl ⊢; omega)
  refine ⟨h.w0, h.fm, b1 ++ b2, ?_, h2, h3⟩
  simp only [List.map_cons, RXs, RX]
  exact ⟨_, _, b1, b2, rfl, ⟨_, rfl, r1⟩, r2, rfl⟩
theorem SL.closeT {es : Lo} (h : SL B (es ++ L) H) : SL B ((.tup (es.map Prod.fst), .tup (es.map Prod.snd)) :: L) H := by
  obtain ⟨bs, h1, h2, h3⟩ := h.rx
  rw [List.map_append, List.map_append] at h1
  obtain ⟨v1, v2, b1, b2, e, rfl, r1, r2⟩ := (RXs.app _ _).1 h1
  have hl := RXs.len _ r1
  obtain ⟨rfl, rfl⟩ := List.append_inj e (by simp at hl ⊢; omega)
  refine ⟨h.w0, h.fm, b1 ++ b2, ?_, h2, h3⟩
  simp only [List.map_cons, RXs, RX]
  exact ⟨_, _, b1, b2, rfl, ⟨_, rfl, r1⟩, r2, rfl⟩
/-! ### cells -/
def Tr.cs? : Tr → Option (List Tr)
  | .sl _ _ _ cs => some cs
  | .bx cs => some cs
  | _ => none
def Tr.wc (t : Tr) (cs : List Tr) : Tr := match t with
  | .sl n es f _ => .sl n es f cs
  | .bx _ => .bx cs
  | t => t
def Tr.hd (t : Tr) (b ver : Nat) : AV := match t with
  | .sl n es f _ => .sl b ver 0 n es f
  | _ => .ptr b ver 0
def blkOf : AV → Option (Nat × Nat)
  | .sl b ver _ _ _ _ => some (b, ver)
  | .ptr b ver _ => some (b, ver)
  | _ => none
theorem RX.cells {t : Tr} {cs : List Tr} (hc : t.cs? = some cs) {u : AV} {bs : List (Nat × Nat)} : RX H t u bs ↔ ∃ b ver vs bs', u = t.hd b ver ∧ H.at b ver = some ⟨ver, vs, true, true⟩ ∧ RXs H cs vs bs' ∧ bs = bs' ++ [(b, ver)] := by
  cases t <;> simp only [Tr.cs?, Option.some.injEq] at hc <;> first | (cases hc; done) | (subst hc; simp only [RX, Tr.hd])
theorem Tr.wc_cs {t : Tr} {cs : List Tr} (hc : t.cs? = some cs) (cs' : List Tr) : (t.wc cs').cs? = some cs' ∧ ∀ b ver, (t.wc cs').hd b ver = t.hd b ver := by
  cases t <;> simp only [Tr.cs?, Option.some.injEq] at hc <;> first | (cases hc; done) | (exact ⟨rfl, fun _ _ => rfl⟩)
theorem blk_hd {t : Tr} {b ver b' ver' : Nat} {u : AV} (h : u = t.hd b ver) (hu : blkOf u = some (b', ver')) : b = b' ∧ ver = ver' := by
  subst h
  cases t <;> simp only [Tr.hd, blkOf, Option.some.injEq, Prod.mk.injEq] at hu <;> exact hu
/-- What is read out of a value's cells. -/
theorem SL.cells (h : SL B L H) {i : Nat} {u : AV} {t : Tr} {cs : List Tr} (hi : L[i]? = some (u, t)) (hc : t.cs? = some cs) {b ver : Nat} (hu : blkOf u = some (b, ver)) : ∃ vs bs', H.at b ver = some ⟨ver, vs, true, true⟩ ∧ RXs H cs vs bs' := by
  obtain ⟨bs, h1, h2, h3⟩ := h.rx
  obtain ⟨v', b1, b', b2, g1, rfl, g3, _, g5⟩ := RXs.pick _ h1 i _ (getE hi)
  rw [getE hi] at g1
  cases g1
  obtain ⟨b0, ver0, vs, bs', e, g6, g7, _⟩ := (RX.cells hc).1 g3
  obtain ⟨rfl, rfl⟩ := blk_hd e hu
  exact ⟨vs, bs', g6, g7⟩
theorem RXs.leafAt : ∀ (ts : List Tr) {vs : List AV} {bs : List (Nat × Nat)}, RXs H ts vs bs → ∀ {j : Nat} {a : AV}, ts[j]? = some (.at a) → vs[j]? = some a := by
  intro ts vs bs h j a hj
  obtain ⟨v, b1, b, b2, g1, _, g3, _, _⟩ := RXs.pick _ h j _ hj
  simp only [RX] at g3
  rw [g1, g3.1]
def lvs : List Tr → Option (List AV)
  | [] => some []
  | .at a :: l => (lvs l).map (a :: ·)
  | _ => none
theorem lvs_some : ∀ {l : List Tr} {m : List AV}, lvs l = some m → l = m.map .at := by
  intro l
  induction l with
  | nil => intro m h; cases h; rfl
  | cons t l ih =>
    intro m h
    cases t with
    | «at» a =>
      simp only [lvs] at h
      obtain ⟨m', h1, rfl⟩ := Option.map_eq_some_iff.1 h
      rw [ih h1]; rfl
    | _ => simp only [lvs] at h; cases h
def ldT (T : Tab) (ty : Nat) (cs : List Tr) (j : Nat) : Option AV := match T ty with
  | none => none
  | some i => match i.d with
    | .struct _ | .array _ _ => if j + i.size ≤ cs.length then (lvs ((cs.drop j).take i.size)).map .agg else none
    | _ => match cs[j]? with | some (.at a) => some a | _ => none
theorem RXs.leafEq : ∀ (ts : List Tr) {vs : List AV} {bs : List (Nat × Nat)} {m : List AV}, RXs H ts vs bs → ts = m.map .at → vs = m := by
  intro ts
  induction ts with
  | nil => intro vs bs m h e; cases m with | nil => simp only [RXs] at h; exact h.1 | cons _ _ => cases e
  | cons t ts ih =>
    intro vs bs m h e
    cases m with
    | nil => cases e
    | cons a m =>
      simp only [List.map_cons, List.cons.injEq] at e
      obtain ⟨rfl, e⟩ := e
      simp only [RXs, RX] at h
      obtain ⟨v, vs', b1, b2, rfl, ⟨rfl, _⟩, h2, _⟩ := h
      rw [ih h2 e]
theorem RXs.dropTake (ts : List Tr) {vs : List AV} {bs : List (Nat × Nat)} (h : RXs H ts vs bs) (j n : Nat) : ∃ bs', RXs H ((ts.drop j).take n) ((vs.drop j).take n) bs' := by
  have hl := RXs.len _ h
  have e1 : ts = ts.take j ++ ts.drop j := (List.take_append_drop j ts).symm
  rw [e1] at h
  obtain ⟨v1, v2, b1, b2, rfl, rfl, r1, r2⟩ := (RXs.app _ _).1 h
  have hl1 := RXs.len _ r1
  have e2 : ts.drop j = (ts.drop j).take n ++ (ts.drop j).drop n := (List.take_append_drop n _).symm
  have hv : (v1 ++ v2).drop j = v2 := by
    have hl2 := RXs.len _ r2
    simp only [List.length_take, List.length_drop] at hl1 hl2
    by_cases hj : j ≤ ts.length
    · rw [List.drop_left' (by omega)]
    · rw [List.drop_of_length_le (by simp; omega)]
      exact (List.eq_nil_of_length_eq_zero (by omega)).symm
  rw [hv]
  rw [e2] at r2
  obtain ⟨w1, w2, c1, c2, rfl, rfl, q1, q2⟩ := (RXs.app _ _).1 r2
  have hm1 := RXs.len _ q1
  have hm2 := RXs.len _ q2
  have : (w1 ++ w2).take n = w1 := by
    simp only [List.length_take, List.length_drop] at hm1 hm2
    by_cases hn : n ≤ ts.length - j
    · rw [List.take_left' (by omega)]
    · have : w2 = [] := List.eq_nil_of_length_eq_zero (by omega)
      subst this
      rw [List.append_nil, List.take_of_length_le (by omega)]
  rw [this]
  exact ⟨c1, q1⟩
theorem SL.load (h : SL B L H) (i : Nat) {u : AV} {t : Tr} {cs : List Tr} (hi : L[i]? = some (u, t)) (hc : t.cs? = some cs) {b ver : Nat} (hu : blkOf u = some (b, ver)) {T : Tab} {ty j : Nat} {v : AV} (hl : ldT T ty cs j = some v) : aload T ty (.ptr b ver j) H = some v := by
  obtain ⟨vs, bs', h1, h2⟩ := h.cells hi hc hu
  have hlen := RXs.len _ h2
  unfold ldT at hl
  simp only [aload]
  cases hT : T ty with
  | none => rw [hT] at hl; cases hl
  | some ti =>
    rw [hT] at hl
    simp only [h1] at hl ⊢
    have agg : (if j + ti.size ≤ cs.length then (lvs ((cs.drop j).take ti.size)).map AV.agg else none) = some v → (if j + ti.size ≤ vs.length then some (AV.agg ((vs.drop j).take ti.size)) else none) = some v := by
      intro e
      split at e
      · rename_i hle
        obtain ⟨m, hm, rfl⟩ := Option.map_eq_some_iff.1 e
        obtain ⟨_, hd⟩ := RXs.dropTake _ h2 j ti.size
        rw [if_pos (by omega), RXs.leafEq _ hd (lvs_some hm)]
      · cases e
    have one : (match cs[j]? with | some (.at a) => some a | _ => none) = some v → vs[j]? = some v := by
      intro e
      split at e
      · rename_i a ha
        cases e
        exact RXs.leafAt _ h2 ha
      · cases e
    cases hd : ti.d <;> simp only [hd] at hl ⊢ <;> first | exact agg hl | exact one hl
def setT : List Tr → Nat → List AV → List Tr
  | l, _, [] => l
  | l, i, v :: vs => setT (l.set i (.at v)) (i + 1) vs
theorem RXs.setT {xs : List AV} : ∀ (ts : List Tr) {vs : List AV} {bs : List (Nat × Nat)} (j : Nat), RXs H ts vs bs → bs.Nodup → j + xs.length ≤ ts.length → ∃ bs', RXs H (Pq.setT ts j xs) (setAll vs j xs) bs' ∧ bs'.Nodup ∧ ∀ p ∈ bs', p ∈ bs := by
  induction xs with
  | nil => intro ts vs bs j h hn _; exact ⟨bs, h, hn, fun p hp => hp⟩
  | cons x xs ih =>
    intro ts vs bs j h hn hl
    simp only [List.length_cons] at hl
    have hj : ts[j]? = some ts[j] := List.getElem?_eq_getElem (by omega)
    obtain ⟨v, b1, b, b2, g1, rfl, g3, g4, _⟩ := RXs.pick _ h j _ hj
    have r := g4 H (.at x) x [] (by simp [RX]) (fun p _ _ hk => hk)
    have hn1 := List.nodup_append.1 hn
    have hn2 := List.nodup_append.1 hn1.2.1
    have n' : (b1 ++ ([] ++ b2)).Nodup := by
      simp only [List.nil_append]
      exact List.nodup_append.2 ⟨hn1.1, hn2.2.1, fun x hx y hy => hn1.2.2 x hx y (by simp [hy])⟩
    obtain ⟨bs', q1, q2, q3⟩ := ih _ (j + 1) r n' (by simp; omega)
    refine ⟨bs', q1, q2, fun p hp => ?_⟩
    have := q3 p hp
    simp only [List.nil_append, List.mem_append] at this ⊢
    rcases this with h | h <;> simp [h]
def stT (T : Tab) (ty : Nat) (cs : List Tr) (j : Nat) (x : AV) : Option (List Tr) := match T ty with
  | none => none
  | some i => if x.cells.length = i.size ∧ j + i.size ≤ cs.length ∧ x.cells.all AV.one = true then some (setT cs j x.cells) else none
theorem put_stp {b ver : Nat} {k : Blk} (hw : Wf H) (hk : H.at b ver = some k) (cs : List AV) (bi : List (Nat × Nat)) (hm : (b, ver) ∈ bi) : Stp bi H (H.put b ⟨ver, cs, true, true⟩) := by
  refine ⟨fun b' ver' hn => Keeps.put2 hk (fun e => hn (by rw [e]; exact hm)), fun i k' hi => ?_, Nat.le_refl _, by simp [Hp.put]⟩
  obtain ⟨g1, g2⟩ := Hp.at_some hk
  have hb := (List.getElem?_eq_some_iff.1 g1).1
  simp only [Hp.put] at hi ⊢
  by_cases hib : b = i
  · subst hib
    simp [hb] at hi
    subst hi
    have := hw b _ g1
    show ver < H.c
    omega
  · rw [List.getElem?_set_ne hib] at hi
    exact hw i k' hi
theorem SL.store (h : SL B L H) (i : Nat) {u : AV} {t : Tr} {cs cs' : List Tr} (hi : L[i]? = some (u, t)) (hc : t.cs? = some cs) {b ver : Nat} (hu : blkOf u = some (b, ver)) {T : Tab} {ty j : Nat} {x : AV} (hx : stT T ty cs j x = some cs') :
    ∃ H', astore T ty (.ptr b ver j) x H = some H' ∧ SL B (L.set i (u, t.wc cs')) H' := by
  obtain ⟨vs, bs', h1, h2⟩ := h.cells hi hc hu
  have hlen := RXs.len _ h2
  unfold stT at hx
  cases hT : T ty with
  | none => rw [hT] at hx; cases hx
  | some ti =>
    rw [hT] at hx
    simp only at hx
    split at hx
    rotate_left
    · cases hx
    rename_i hcond
    cases hx
    refine ⟨H.put b ⟨ver, setAll vs j x.cells, true, true⟩, ?_, h.upd i hi fun bi hr hn => ?_⟩
    · simp only [astore, hT, h1]
      rw [if_pos ⟨trivial, hcond.1, by omega, hcond.2.2⟩]
    · obtain ⟨b0, ver0, vs0, bs0, e, g6, g7, rfl⟩ := (RX.cells hc).1 hr
      obtain ⟨rfl, rfl⟩ := blk_hd e hu
      rw [h1] at g6
      cases g6
      have hn1 := List.nodup_append.1 hn
      obtain ⟨bs1, q1, q2, q3⟩ := RXs.setT (xs := x.cells) _ j g7 hn1.1 (by omega)
      obtain ⟨w1, w2⟩ := Tr.wc_cs hc (setT cs j x.cells)
      have hst := put_stp h.fm.wf h1 (setAll vs j x.cells) (bs0 ++ [(b0, ver0)]) (by simp)
      refine ⟨bs1 ++ [(b0, ver0)], (RX.cells w1).2 ⟨b0, ver0, setAll vs j x.cells, bs1, by rw [w2]; exact e, at_put_same h1 rfl, ?_, rfl⟩, ?_, fun p hp => .inl ?_, hst⟩
      · refine RXs.keep _ (fun p hp => Keeps.put2 h1 fun e => ?_) q1
        exact hn1.2.2 p (q3 p hp) (b0, ver0) (by simp) e
      · exact List.nodup_append.2 ⟨q2, by simp, fun x hx y hy => hn1.2.2 x (q3 x hx) y hy⟩
      · simp only [List.mem_append] at hp ⊢
        exact hp.imp (q3 p) id
/-- A cell's value becomes one of its own. -/
theorem SL.unfold (h : SL B L H) (i : Nat) {u : AV} {t tj : Tr} {cs : List Tr} (hi : L[i]? = some (u, t)) (hc : t.cs? = some cs) (j : Nat) (hj : cs[j]? = some tj) : ∃ v, SL B ((v, tj) :: L.set i (u, t.wc (cs.set j (.at v)))) H := by
  obtain ⟨bs, h1, h2, h3⟩ := h.rx
  obtain ⟨v, b1, b, b2, g1, rfl, g3, g4, _⟩ := RXs.pick _ h1 i t (getE hi)
  rw [getE hi] at g1
  cases g1
  obtain ⟨b0, ver0, vs0, bs0, e, g6, g7, rfl⟩ := (RX.cells hc).1 g3
  obtain ⟨x, c1, c, c2, k1, rfl, k3, k4, _⟩ := RXs.pick _ g7 j tj hj
  have r := k4 H (.at x) x [] (by simp [RX]) (fun p _ _ hk => hk)
  have hset : vs0.set j x = vs0 := set_get k1
  rw [hset] at r
  obtain ⟨w1, w2⟩ := Tr.wc_cs hc (cs.set j (.at x))
  have r2 := g4 H _ u (c1 ++ ([] ++ c2) ++ [(b0, ver0)]) ((RX.cells w1).2 ⟨b0, ver0, vs0, _, by rw [w2]; exact e, g6, r, rfl⟩) (fun p _ _ hk => hk)
  refine ⟨x, h.w0, h.fm, c ++ (b1 ++ (c1 ++ ([] ++ c2) ++ [(b0, ver0)] ++ b2)), ?_, nodup_perm h2 (fun x => by simp only [List.count_append, List.count_nil]; omega), fun p hp => h3 p ?_⟩
  · simp only [List.map_cons, RXs, List.map_set]
    exact ⟨x, _, c, _, rfl, k3, r2, rfl⟩
  · simp only [List.mem_append, List.nil_append] at hp ⊢
    rcases hp with h | h | ((h | h) | h) | h <;> simp [h]
/-- A value goes into its cell. -/
theorem SL.fold (h : SL B L H) (i j k : Nat) {u v : AV} {t tk : Tr} {cs : List Tr} (hi : L[i]? = some (u, t)) (hc : t.cs? = some cs) (hj : cs[j]? = some (.at v)) (hk : L[k]? = some (v, tk)) (hik : i ≠ k) : SL B ((L.set i (u, t.wc (cs.set j tk))).eraseIdx k) H := by
  obtain ⟨bs, h1, h2, h3⟩ := h.rx
  obtain ⟨u', b1, b, b2, g1, rfl, g3, g4, _⟩ := RXs.pick _ h1 i t (getE hi)
  rw [getE hi] at g1
  cases g1
  obtain ⟨b0, ver0, vs0, bs0, e, g6, g7, rfl⟩ := (RX.cells hc).1 g3
  obtain ⟨x, c1, c, c2, k1, rfl, k3, k4, _⟩ := RXs.pick _ g7 j _ hj
  simp only [RX] at k3
  obtain ⟨rfl, rfl⟩ := k3
  have hset : vs0.set j x = vs0 := set_get k1
  -- the value, out of the list
  have same := g4 H t u (c1 ++ ([] ++ c2) ++ [(b0, ver0)]) g3 (fun p _ _ hk => hk)
  have hsk : (L.map Prod.snd).set i t = L.map Prod.snd := by
    refine List.ext_getElem? fun n => ?_
    by_cases hn : i = n
    · subst hn
      have := (List.getElem?_eq_some_iff.1 hi).1
      rw [List.getElem?_set_self (by simpa using this), getE hi]
    · rw [List.getElem?_set_ne hn]
  have hkk : ((L.map Prod.snd).set i (t.wc (cs.set j tk)))[k]? = some tk := by rw [List.getElem?_set_ne hik, getE hk]
  -- the footprint of k
  obtain ⟨v', d1, d, d2, m1, m2, m3, m4, m5⟩ := RXs.pick _ h1 k tk (getE hk)
  rw [getE hk] at m1
  cases m1
  have r := k4 H tk x d m3 (fun p _ _ hk => hk)
  rw [hset] at r
  obtain ⟨w1, w2⟩ := Tr.wc_cs hc (cs.set j tk)
  have r2 := g4 H _ u (c1 ++ (d ++ c2) ++ [(b0, ver0)]) ((RX.cells w1).2 ⟨b0, ver0, vs0, _, by rw [w2]; exact e, g6, r, rfl⟩) (fun p _ _ hk => hk)
  obtain ⟨v', f1, f, f2, n1, n2, n3, n4, n5⟩ := RXs.pick _ r2 k tk hkk
  have hfp : ∀ y, (f1 ++ f2).count y + f.count y = (b1 ++ (c1 ++ (d ++ c2) ++ [(b0, ver0)] ++ b2)).count y := by
    intro y; rw [n2]; simp only [List.count_append]; omega
  have hmp : ∀ y, d1.count y + d.count y + d2.count y = b1.count y + (c1.count y + c2.count y + [(b0, ver0)].count y + b2.count y) := by
    intro y
    have := congrArg (List.count y) m2
    simp only [List.count_append, List.count_nil] at this
    omega
  -- two footprints of one value are the same
  have fd : ∀ y, f.count y = d.count y := by
    intro y
    have : v' = x := by
      rw [List.getElem?_set_ne hik, getE hk] at n1
      exact (Option.some.inj n1).symm
    subst this
    rw [RX.uniq tk n3 m3]
  refine ⟨h.w0, h.fm, f1 ++ f2, ?_, ?_, ?_⟩
  · rw [← erase_map, ← erase_map, List.map_set, List.map_set]
    exact n5
  · refine nodup_perm h2 fun y => ?_
    have e1 := hfp y
    have e2 := hmp y
    have e3 := fd y
    simp only [List.count_append, List.count_nil] at e1 ⊢
    omega
  · intro p hp
    refine h3 p ?_
    have hc1 : 0 < (f1 ++ f2).count p := List.count_pos_iff.2 hp
    have e1 := hfp p
    have e2 := hmp p
    have e3 := fd p
    refine List.count_pos_iff.1 ?_
    simp only [List.count_append, List.count_nil] at e1 hc1 ⊢
    omega
/-! ### new blocks -/
theorem SL.nil {H : Hp} (hw : Wf H) (A : List (Nat × Nat)) : SL ⟨H, A⟩ [] H := ⟨hw, ⟨fun _ _ h _ => h, hw, Nat.le_refl _, Nat.le_refl _⟩, [], by simp [RXs], List.nodup_nil, by simp⟩
theorem new_stp (hw : Wf H) (cells : List AV) : Stp [] H (H.new cells) := ⟨fun b ver _ k hk => at_new hk cells, hw.new cells, Nat.le_succ _, by simp [Hp.new]⟩
theorem SL.new (h : SL B L H) (t : Tr) (cells : List AV) (hc : t.cs? = some (cells.map .at)) : SL B ((t.hd H.bs.length H.c, t) :: L) (H.new cells) := by
  refine h.push (b' := [(H.bs.length, H.c)]) ((RX.cells hc).2 ⟨_, _, cells, [], rfl, new_at _ _, RXs.leaves _, rfl⟩) (by simp) (by simp) (new_stp h.fm.wf _)
mutual
theorem mk_rx : ∀ (t : Tr) {H : Hp}, Wf H → ∃ bs, RX (mk t H).2 t (mk t H).1 bs ∧ Fresh H.c (mk t H).2.c bs ∧ Ext H (mk t H).2
  | .at a, H, hw => ⟨[], by simp only [RX, mk]; exact ⟨trivial, trivial⟩, Fresh.nil _ _, Ext.refl hw⟩
  | .sl n es full cs, H, hw => by
    obtain ⟨bs, h1, h2, h3⟩ := mks_rx cs hw
    simp only [mk, RX]
    refine ⟨bs ++ [((mks cs H).2.bs.length, (mks cs H).2.c)], ⟨_, _, _, bs, rfl, new_at _ _, RXs.keep _ (fun p _ => Keeps.pre (Pre.new (Pre.refl _) _) p.1 p.2) h1, rfl⟩, ?_, h3.new _⟩
    exact h2.app (Fresh.one (Nat.le_refl _) (Nat.lt_succ_self _)) h3.c (Nat.le_succ _)
  | .bx cs, H, hw => by
    obtain ⟨bs, h1, h2, h3⟩ := mks_rx cs hw
    simp only [mk, RX]
    refine ⟨bs ++ [((mks cs H).2.bs.length, (mks cs H).2.c)], ⟨_, _, _, bs, rfl, new_at _ _, RXs.keep _ (fun p _ => Keeps.pre (Pre.new (Pre.refl _) _) p.1 p.2) h1, rfl⟩, ?_, h3.new _⟩
    exact h2.app (Fresh.one (Nat.le_refl _) (Nat.lt_succ_self _)) h3.c (Nat.le_succ _)
  | .agg cs, H, hw => by
    obtain ⟨bs, h1, h2, h3⟩ := mks_rx cs hw
    simp only [mk, RX]
    exact ⟨bs, ⟨_, rfl, h1⟩, h2, h3⟩
  | .tup cs, H, hw => by
    obtain ⟨bs, h1, h2, h3⟩ := mks_rx cs hw
    simp only [mk, RX]
    exact ⟨bs, ⟨_, rfl, h1⟩, h2, h3⟩
theorem mks_rx : ∀ (l : List Tr) {H : Hp}, Wf H → ∃ bs, RXs (mks l H).2 l (mks l H).1 bs ∧ Fresh H.c (mks l H).2.c bs ∧ Ext H (mks l H).2
  | [], H, hw => ⟨[], by simp only [RXs, mks]; exact ⟨trivial, trivial⟩, Fresh.nil _ _, Ext.refl hw⟩
  | t :: l, H, hw => by
    obtain ⟨b1, h1, h2, h3⟩ := mk_rx t hw
    obtain ⟨b2, g1, g2, g3⟩ := mks_rx l (H := (mk t H).2) h3.wf
    simp only [mks, RXs]
    exact ⟨b1 ++ b2, ⟨_, _, b1, b2, rfl, RX.keep t (fun p _ => Keeps.pre g3.pre p.1 p.2) h1, g1, rfl⟩, h2.app g2 h3.c g3.c, h3.trans g3⟩
end
mutual
theorem mk_len : ∀ (t : Tr) (H : Hp), H.bs.length ≤ (mk t H).2.bs.length
  | .at a, H => Nat.le_refl _
  | .sl n es full cs, H => by simp only [mk, Hp.new, List.length_append]; exact Nat.le_trans (mks_len cs H) (Nat.le_add_right _ _)
  | .bx cs, H => by simp only [mk, Hp.new, List.length_append]; exact Nat.le_trans (mks_len cs H) (Nat.le_add_right _ _)
  | .agg cs, H => mks_len cs H
  | .tup cs, H => mks_len cs H
theorem mks_len : ∀ (l : List Tr) (H : Hp), H.bs.length ≤ (mks l H).2.bs.length
  | [], H => Nat.le_refl _
  | t :: l, H => by simp only [mks]; exact Nat.le_trans (mk_len t H) (mks_len l _)
end
/-- What a call has handed back. -/
theorem SL.called (h : SL B L H) (t : Tr) : SL B (((Pq.mk t H).1, t) :: L) (Pq.mk t H).2 := by
  obtain ⟨bs, h1, h2, h3⟩ := mk_rx t h.fm.wf
  exact h.push h1 h2.1 (fun p hp => (h2.2 p hp).1) (Stp.of h3.pre h3.wf h3.c (mk_len t H))
/-! ### lists of numbers -/
def trInts : List Tr → Option (List Int)
  | [] => some []
  | .at (.int .i64 n) :: l => (trInts l).map (n :: ·)
  | _ => none
def numsT : Tr → Option (List Int)
  | .at .nilS => some []
  | .sl n es _ cs => if es = 1 ∧ n = cs.length ∧ n ≤ 1152921504606846976 then trInts cs else none
  | _ => none
theorem trInts_some : ∀ {cs : List Tr} {l : List Int}, trInts cs = some l → cs = trI l := by
  intro cs
  induction cs with
  | nil => intro l h; cases h; rfl
  | cons t cs ih =>
    intro l h
    unfold trInts at h
    split at h
    · rename_i e; cases e
    · rename_i n cs' e
      cases e
      obtain ⟨l', h1, rfl⟩ := Option.map_eq_some_iff.1 h
      rw [ih h1]; rfl
    · cases h
theorem trInts_I (l : List Int) : trInts (trI l) = some l := by
  induction l with
  | nil => rfl
  | cons a l ih => simp only [trI, List.map_cons, trInts] at ih ⊢; rw [ih]; rfl
theorem numsT_F {l : List Int} (h : l.length ≤ 1152921504606846976) : numsT (trF l) = some l := by
  simp only [trF, numsT]; rw [if_pos ⟨trivial, by simp [trI], h⟩, trInts_I]
theorem numsT_S {l : List Int} (h : l.length ≤ 1152921504606846976) : numsT (trS l) = some l := by
  unfold trS; split
  · rename_i e; subst e; rfl
  · simp only [numsT]; rw [if_pos ⟨trivial, by simp [trI], h⟩, trInts_I]
theorem numsT_C {l : List Int} (h : l.length ≤ 1152921504606846976) : numsT (trC l) = some l := by
  unfold trC; split
  · rename_i e; subst e; exact numsT_F h
  · exact numsT_S h
theorem RX.ints {t : Tr} {l : List Int} (hn : numsT t = some l) {u : AV} {bs : List (Nat × Nat)} (h : RX H t u bs) : Pq.ints H u = some l := by
  unfold numsT at hn
  split at hn
  · cases hn; simp only [RX] at h; rw [h.1]; rfl
  · rename_i n es f cs
    split at hn
    · rename_i hc
      obtain ⟨rfl, rfl, hb⟩ := hc
      have := trInts_some hn
      subst this
      simp only [RX] at h
      obtain ⟨b, ver, vs, bs', rfl, h1, h2, _⟩ := h
      have hv : vs = l.map (.int .i64) := RXs.leafEq _ h2 (by simp [trI])
      subst hv
      simp only [trI, List.length_map] at hb
      simp only [Pq.ints, trI, List.length_map, h1, List.drop_zero]
      rw [if_pos ⟨trivial, hb⟩, if_pos (by simp), List.take_of_length_le (by simp), toInts_map]
    · cases hn
  · cases hn
theorem SL.ints (h : SL B L H) (i : Nat) {u : AV} {t : Tr} {l : List Int} (hi : L[i]? = some (u, t)) (hn : numsT t = some l) : Pq.ints H u = some l := by
  obtain ⟨bs, h1, h2, h3⟩ := h.rx
  obtain ⟨v', b1, b', b2, g1, rfl, g3, _, g5⟩ := RXs.pick _ h1 i _ (getE hi)
  rw [getE hi] at g1
  cases g1
  exact RX.ints hn g3
/-- A number of an own list is written. -/
theorem SL.storeI (h : SL B L H) (i : Nat) {f : Bool} {u : AV} {l : List Int} (hi : L[i]? = some (u, trB f l)) {t : Nat} (ht : t = 3 ∨ t = 2) (j : Nat) (hj : j < l.length) (x : Int) :
    ∃ H', astore T t (pAt u j) (.int .i64 x) H = some H' ∧ SL B (L.set i (u, trB f (l.set j x))) H' := by
  obtain ⟨bs, h1, h2, h3⟩ := h.rx
  obtain ⟨v', b1, b', b2, g1, e, g3, _, g5⟩ := RXs.pick _ h1 i _ (getE hi)
  rw [getE hi] at g1
  cases g1
  have hr := RX.rep (c := 0) _ (by cases f <;> simp [trB, okT_F, okT_S]) (by simp) g3
  obtain ⟨H', e1, e2, e3, e4, e5⟩ := rep_store ht hr j hj x
  have hx := e4 ⟨[], 0⟩ (by intro b k hk; simp at hk) ⟨by intro b k hk; simp at hk, h.fm.wf, Nat.zero_le _⟩ (Nat.le_refl _)
  refine ⟨H', e1, h.upd i hi fun bi hr1 hn => ?_⟩
  have : bi = b' := RX.uniq _ hr1 g3
  subst this
  have hlen : H.bs.length ≤ H'.bs.length := by
    have : H'.bs.length = H.bs.length := by
      unfold astore at e1
      split at e1
      · split at e1
        · split at e1
          · cases e1; simp [Hp.put]
          · cases e1
        · cases e1
      · cases e1
    omega
  exact ⟨bi, (RX.of _ e2).1, hn, fun p hp => .inl hp, e3, hx.wf, by omega, hlen⟩
/-! ### append -/
theorem aapp_core {t e es n m : Nat} {ie : TI} {u y : AV} {cs : List Tr} {xs : List AV} {bi : List (Nat × Nat)} (hw : Wf H) (hD : T.d t = .slice e) (hT : T e = some ie) (hes : ie.size = es) (hb0 : ie.bytes ≠ 0) (hu : RX H (trG n es cs) u bi)
    (hy : slCells H y = some (m, xs)) (hcs : cs.length = n * es) (hxl : xs.length = m * es) (hm : m ≠ 0) (hl : (n + m) * ie.bytes ≤ maxBytes) :
    ∃ u' H' ci b', aapp T false t t u y H = some (u', H') ∧ (∀ x, ci.count x ≤ bi.count x) ∧ (∀ p ∈ ci, p ∈ bi) ∧ Stp bi H H' ∧ H.c < H'.c ∧
      ∀ xt cx, RXs H xt xs cx → (∀ p ∈ cx, p ∉ bi) → bi.Nodup → RX H' (trG (n + m) es (cs ++ xt)) u' (ci ++ cx ++ [(b', H.c)]) := by
  have hnm : n + m ≠ 0 := by omega
  by_cases hn : n = 0
  · subst hn
    have hcs0 : cs = [] := List.eq_nil_of_length_eq_zero (by simpa using hcs)
    subst hcs0
    simp only [trG, if_true, RX] at hu
    obtain ⟨rfl, rfl⟩ := hu
    refine ⟨.sl H.bs.length H.c 0 m es false, H.new xs, [], H.bs.length, ?_, by simp, by simp, new_stp hw xs, Nat.lt_succ_self _, fun xt cx hx _ _ => ?_⟩
    · simp only [aapp, hD, hT, Option.bind_some, aappend, hy, hes]
      rw [if_neg (by simp [hxl]), if_neg hm, if_pos ⟨by simpa using hl, hb0⟩]
    · rw [Nat.zero_add]
      simp only [trG, if_neg hm, RX, List.nil_append]
      exact ⟨_, _, xs, cx, rfl, new_at _ _, RXs.keep _ (fun p _ _ hk => at_new hk xs) hx, rfl⟩
  · simp only [trG, if_neg hn, RX] at hu
    obtain ⟨b, ver, vs, ci, rfl, hk, hr, rfl⟩ := hu
    have hvl := RXs.len _ hr
    obtain ⟨g1, g2⟩ := Hp.at_some hk
    have hb := (List.getElem?_eq_some_iff.1 g1).1
    have hst : Stp (ci ++ [(b, ver)]) H ⟨H.bs.set b ⟨H.c, vs ++ xs, true, true⟩, H.c + 1⟩ := by
      refine ⟨fun b1 v1 hne k hk1 => ?_, fun i k' hi => ?_, Nat.le_succ _, by simp⟩
      · have hbb : b1 ≠ b := by
          rintro rfl
          obtain ⟨q1, q2⟩ := Hp.at_some hk1
          rw [g1] at q1
          cases q1
          exact hne (by rw [← q2]; simp)
        simp only [Hp.at] at hk1 ⊢
        rw [List.getElem?_set_ne (fun e => hbb e.symm)]
        exact hk1
      · by_cases hib : b = i
        · subst hib
          simp [hb] at hi
          subst hi
          exact Nat.lt_succ_self _
        · simp only [List.getElem?_set_ne hib] at hi
          exact Nat.lt_succ_of_lt (hw i k' hi)
    refine ⟨.sl b H.c 0 (n + m) es false, _, ci, b, ?_, fun x => by simp, fun p hp => by simp [hp], hst, Nat.lt_succ_self _, fun xt cx hx hd hnd => ?_⟩
    · simp only [aapp, hD, hT, Option.bind_some, aappend, hy, hk, hes]
      rw [if_neg (by simp [hxl]), if_neg hm, if_neg (by simp only [ne_eq, not_true_eq_false, false_or]; rw [hvl, hcs]; omega), if_neg (by simp), if_pos (by simp [hvl, hcs])]
      simp
    · simp only [trG, if_neg hnm, RX]
      have hnd' := List.nodup_append.1 hnd
      refine ⟨b, H.c, vs ++ xs, ci ++ cx, rfl, by simp [Hp.at, hb], (RXs.app _ _).2 ⟨vs, xs, ci, cx, rfl, rfl, ?_, ?_⟩, rfl⟩
      · refine RXs.keep _ (fun p hp k hk1 => ?_) hr
        have hpb : p.1 ≠ b := by
          intro e
          obtain ⟨q1, q2⟩ := Hp.at_some hk1
          rw [e, g1] at q1
          cases q1
          exact hnd'.2.2 p hp (b, ver) (by simp) (Prod.ext e q2.symm)
        simp only [Hp.at] at hk1 ⊢
        rw [List.getElem?_set_ne (fun e => hpb e.symm)]
        exact hk1
      · refine RXs.keep _ (fun p hp k hk1 => ?_) hx
        have hpb : p.1 ≠ b := by
          intro e
          obtain ⟨q1, q2⟩ := Hp.at_some hk1
          rw [e, g1] at q1
          cases q1
          exact hd p hp (List.mem_append_right _ (List.mem_singleton.2 (Prod.ext e q2.symm)))
        simp only [Hp.at] at hk1 ⊢
        rw [List.getElem?_set_ne (fun e => hpb e.symm)]
        exact hk1
/-- An appended list grows; what is appended goes into it. -/
theorem SL.app (h : SL B L H) (i k : Nat) {t e es n m : Nat} {ie : TI} {f : Bool} {u y : AV} {cs xt : List Tr} (hD : T.d t = .slice e) (hT : T e = some ie) (hes : ie.size = es) (hb0 : ie.bytes ≠ 0) (hi : L[i]? = some (u, trG n es cs)) (hk : L[k]? = some (y, .sl m es f xt)) (hik : i ≠ k)
    (hcs : cs.length = n * es) (hxl : xt.length = m * es) (hm : m ≠ 0) (hl : (n + m) * ie.bytes ≤ maxBytes) :
    ∃ u' H', aapp T false t t u y H = some (u', H') ∧ SL B ((L.set i (u', trG (n + m) es (cs ++ xt))).eraseIdx k) H' := by
  obtain ⟨bs, h1, h2, h3⟩ := h.rx
  obtain ⟨v', d1, bk, d2, m1, em, m3, _, _⟩ := RXs.pick _ h1 k _ (getE hk)
  rw [getE hk] at m1
  cases m1
  have m3' := m3
  simp only [RX] at m3'
  obtain ⟨by_, vy, xs, cx, rfl, hyk, hyr, rfl⟩ := m3'
  have hxl' := RXs.len _ hyr
  have hy : slCells H (.sl by_ vy 0 m es f) = some (m, xs) := by
    simp only [slCells, hyk]
    rw [if_pos (by omega), List.drop_zero, List.take_of_length_le (by omega)]
  obtain ⟨v', b1, bi, b2, g1, rfl, g3, g4, g5⟩ := RXs.pick _ h1 i _ (getE hi)
  rw [getE hi] at g1
  cases g1
  obtain ⟨u', H', ci, b', e1, e2, e3, e4, e5, e6⟩ := aapp_core h.fm.wf hD hT hes hb0 g3 hy hcs (by omega) hm hl
  have hcount : ∀ x, b1.count x + (bi.count x + b2.count x) = d1.count x + (cx.count x + [(by_, vy)].count x + d2.count x) := by
    intro x
    have := congrArg (List.count x) em
    simpa only [List.count_append] using this
  have hone : ∀ x, b1.count x + (bi.count x + b2.count x) ≤ 1 := by
    intro x
    have := List.nodup_iff_count.1 h2 x
    simpa only [List.count_append] using this
  -- k is another one
  have hki : ∀ p ∈ cx ++ [(by_, vy)], p ∉ bi := by
    intro p hp hpi
    have hkk : ((L.map Prod.snd).set i (.at .bad))[k]? = some (.sl m es f xt) := by rw [List.getElem?_set_ne hik, getE hk]
    have r0 := g4 H (.at .bad) .bad [] (by simp [RX]) (fun p _ _ hk => hk)
    obtain ⟨v', f1, ff, f2, n1, n2, n3, _, _⟩ := RXs.pick _ r0 k _ hkk
    rw [List.getElem?_set_ne hik, getE hk] at n1
    cases n1
    rw [RX.uniq _ n3 m3] at n2
    have e0 := congrArg (List.count p) n2
    simp only [List.count_append, List.nil_append] at e0
    have h4 : 0 < (cx ++ [(by_, vy)]).count p := List.count_pos_iff.2 hp
    have h5 : 0 < bi.count p := List.count_pos_iff.2 hpi
    have h6 := hone p
    simp only [List.count_append] at h4
    omega
  have hbn : bi.Nodup := List.nodup_iff_count.2 fun x => by have := hone x; omega
  have hr := e6 xt cx hyr (fun p hp => hki p (by simp [hp])) hbn
  have r2 := g4 H' _ u' _ hr (fun p hp => e4.k p.1 p.2 fun hm => by
    have h6 := hone p
    have h5 : 0 < bi.count p := List.count_pos_iff.2 hm
    rcases hp with hp | hp
    · have : 0 < b1.count p := List.count_pos_iff.2 hp
      omega
    · have : 0 < b2.count p := List.count_pos_iff.2 hp
      omega)
  have hkk : ((L.map Prod.snd).set i (trG (n + m) es (cs ++ xt)))[k]? = some (.sl m es f xt) := by rw [List.getElem?_set_ne hik, getE hk]
  obtain ⟨v', f1, ff, f2, n1, n2, n3, n4, n5⟩ := RXs.pick _ r2 k _ hkk
  rw [List.getElem?_set_ne hik, getE hk] at n1
  cases n1
  have m4 := RX.keep _ (fun p hp => e4.k p.1 p.2 (hki p hp)) m3
  rw [RX.uniq _ n3 m4] at n2
  have hc2 : ∀ x, f1.count x + f2.count x + (cx.count x + [(by_, vy)].count x) = b1.count x + (ci.count x + cx.count x + [(b', H.c)].count x + b2.count x) := by
    intro x
    have := congrArg (List.count x) n2
    simp only [List.count_append] at this
    omega
  have hlt : ∀ p, 0 < b1.count p + (bi.count p + b2.count p) → p.2 < H.c := by
    intro p hp
    have : p ∈ b1 ++ (bi ++ b2) := List.count_pos_iff.1 (by simpa only [List.count_append] using hp)
    obtain ⟨cs', hcs'⟩ := RXs.live _ h1 p this
    exact lt_of_at h.fm.wf hcs'
  refine ⟨u', H', e1, h.w0, h.fm.step h.w0 e4 (fun p hp => h3 p (by simp [hp])), f1 ++ f2, ?_, ?_, ?_⟩
  · rw [← erase_map, ← erase_map, List.map_set, List.map_set]
    exact n5
  · refine List.nodup_iff_count.2 fun x => ?_
    have c1 := hc2 x
    have c2 := hone x
    have c3 := e2 x
    have c4 := hlt x
    simp only [List.count_append]
    by_cases hx : x = (b', H.c)
    · subst hx
      have : ¬ 0 < b1.count (b', H.c) + (bi.count (b', H.c) + b2.count (b', H.c)) := fun h => by have := c4 h; simp only at this; omega
      have e7 : [(b', H.c)].count (b', H.c) = 1 := by simp
      omega
    · have e7 : [(b', H.c)].count x = 0 := by simp [List.count_eq_zero, hx]
      omega
  · intro p hp
    have c1 := hc2 p
    have c3 := e2 p
    have h0 : 0 < (f1 ++ f2).count p := List.count_pos_iff.2 hp
    simp only [List.count_append] at h0
    by_cases hx : p = (b', H.c)
    · left; rw [hx]; exact h.fm.c
    · have e7 : [(b', H.c)].count p = 0 := by simp [List.count_eq_zero, hx]
      refine h3 p (List.count_pos_iff.1 ?_)
      simp only [List.count_append]
      omega
end
/- Walking rules over what a function has made: the memory is not in sight. -/
inductive Zt where
  | fin (Q : Ex → Sl → Hp → Prop)
  | seq (b : Cc) (k : Zt)
  | blk (id : Nat) (k : Zt)
  | loop (I : Nat → Sl → Lo → Prop) (m : Nat) (k : Zt)
def Zt.den (B : Bs) : Zt → Ct
  | .fin Q => .fin Q
  | .seq b k => .seq b (k.den B)
  | .blk id k => .blk id (k.den B)
  | .loop I m k => .loop (fun m s H => ∃ L, SL B L H ∧ I m s L) m (k.den B)
structure Z (E : Env) (B : Bs) (c : Cc) (s : Sl) (L : Lo) (k : Zt) : Prop where out : ∀ H, SL B L H → Y E T c s H (k.den B)
structure ZK (E : Env) (B : Bs) (k : Zt) (x : Ex) (s : Sl) (L : Lo) : Prop where out : ∀ H, SL B L H → K E T (k.den B) x s H
/-- Operations to come; with what was gone through, where a region draws its order. -/
inductive Md where
  | no
  | yes (full : List Co) (rs : List (Nat × Nat)) (tr : List (Sl × Lo))
def Md.add (m : Md) (s : Sl) (L : Lo) : Md := match m with
  | .no => .no
  | .yes f rs tr => .yes f rs (tr ++ [(s, L)])
def Fits (B : Bs) : List (Sl × Lo) → List (Sl × Hp) → Prop
  | [], [] => True
  | p :: tr, q :: th => q.1 = p.1 ∧ SL B p.2 q.2 ∧ Fits B tr th
  | _, _ => False
structure ZL (E : Env) (B : Bs) (m : Md) (sh : Bool) (l : List Co) (s : Sl) (L : Lo) (k : Zt) : Prop where
  out : ∀ H, SL B L H → match m with
    | .no => YL E T sh l s H (k.den B)
    | .yes f rs tr => ∀ th, Fits B tr th → YT E T sh f rs l s H th (k.den B)
section
variable {E : Env} {B : Bs} {s : Sl} {L : Lo} {k : Zt} {m : Md}
theorem zStart {c : Cc} {H : Hp} {Q : Ex → Sl → Hp → Prop} (hS : SL B L H) (h : Z E B c s L (.fin Q)) : Y E T c s H (.fin Q) := h.out H hS
theorem zSeq {a b} (h : Z E B a s L (.seq b k)) : Z E B (.seq a b) s L k := ⟨fun H hS => goSeq (h.out H hS)⟩
theorem zReg {sh l} (h : ZL E B .no sh l s L k) : Z E B (.reg sh l) s L k := ⟨fun H hS => goReg (h.out H hS)⟩
theorem zSkip (h : ZK E B k .norm s L) : Z E B .skip s L k := ⟨fun H hS => goSkip (h.out H hS)⟩
theorem zBlock {id b} (h : Z E B b s L (.blk id k)) : Z E B (.block id b) s L k := ⟨fun H hS => goBlock (h.out H hS)⟩
theorem zExit {i} (h : ZK E B k (.exit i) s L) : Z E B (.exit i) s L k := ⟨fun H hS => goExit (h.out H hS)⟩
theorem zRet (h : ZK E B k .ret s L) : Z E B .ret s L k := ⟨fun H hS => goRet (h.out H hS)⟩
theorem zSeqN {b} (h : Z E B b s L k) : ZK E B (.seq b k) .norm s L := ⟨fun H hS => goSeqN (h.out H hS)⟩
theorem zSeqR {b} (h : ZK E B k .ret s L) : ZK E B (.seq b k) .ret s L := ⟨fun H hS => goSeqR (h.out H hS)⟩
theorem zSeqE {b i} (h : ZK E B k (.exit i) s L) : ZK E B (.seq b k) (.exit i) s L := ⟨fun H hS => goSeqE (h.out H hS)⟩
theorem zBlkN {id} (h : ZK E B k .norm s L) : ZK E B (.blk id k) .norm s L := ⟨fun H hS => goBlkN (h.out H hS)⟩
theorem zBlkR {id} (h : ZK E B k .ret s L) : ZK E B (.blk id k) .ret s L := ⟨fun H hS => goBlkR (h.out H hS)⟩
theorem zBlkE {id} (h : ZK E B k .norm s L) : ZK E B (.blk id k) (.exit id) s L := ⟨fun H hS => goBlkE (h.out H hS)⟩
theorem zBlkX {id j : Nat} (hj : (j == id) = false) (h : ZK E B k (.exit j) s L) : ZK E B (.blk id k) (.exit j) s L := ⟨fun H hS => goBlkX hj (h.out H hS)⟩
theorem zLoopN {I : Nat → Sl → Lo → Prop} {m : Nat} (m' : Nat) (hm : m' < m) (h : I m' s L) : ZK E B (.loop I m k) .norm s L := ⟨fun H hS => goLoopN (k := k.den B) m' hm ⟨L, hS, h⟩⟩
theorem zLoopR {I m} (h : ZK E B k .ret s L) : ZK E B (.loop I m k) .ret s L := ⟨fun H hS => goLoopR (h.out H hS)⟩
theorem zLoopE {I m i} (h : ZK E B k (.exit i) s L) : ZK E B (.loop I m k) (.exit i) s L := ⟨fun H hS => goLoopE (h.out H hS)⟩
theorem zLoop {lv b} (I : Nat → Sl → Lo → Prop) (m : Nat) (h0 : I m s L) (h : ∀ m s1 L1, I m s1 L1 → Z E B b (cutSl lv s1) L1 (.loop I m k)) : Z E B (.loop lv false b) s L k :=
  ⟨fun H hS => goLoop (fun m s H => ∃ L, SL B L H ∧ I m s L) m ⟨L, hS, h0⟩ fun m s1 H1 ⟨L1, hS1, hI⟩ => (h m s1 L1 hI).out H1 hS1⟩
theorem zGL {L' : Lo} {sh l} (hg : ∀ H, SL B L H → SL B L' H) (h : ZL E B m sh l s L' k) : ZL E B m sh l s L k := ⟨fun H hS => h.out H (hg H hS)⟩
theorem zML {sh l} (h : ∀ H, SL B L H → ZL E B m sh l s L k) : ZL E B m sh l s L k := ⟨fun H hS => (h H hS).out H hS⟩
theorem zIfB {c a b t} (he : ev s c = .bool t) (h1 : t = true → Z E B a s L k) (h2 : t = false → Z E B b s L k) : Z E B (.cond c a b) s L k := ⟨fun H hS => goIfB he (fun e => (h1 e).out H hS) (fun e => (h2 e).out H hS)⟩
theorem zIfQ {c a b t q} (he : ev s c = q) (eq : q = .bool t) (h1 : t = true → Z E B a s L k) (h2 : t = false → Z E B b s L k) : Z E B (.cond c a b) s L k := zIfB (he.trans eq) h1 h2
theorem zIf {c a b p q} {_ : Decidable p} (he : ev s c = q) (eq : q = .bool (decide p)) (h1 : p → Z E B a s L k) (h2 : ¬p → Z E B b s L k) : Z E B (.cond c a b) s L k :=
  zIfB (he.trans eq) (fun h => h1 (of_decide_eq_true h)) (fun h => h2 (of_decide_eq_false h))
theorem zIfT {c a b} (he : ev s c = .bool true) (h1 : Z E B a s L k) : Z E B (.cond c a b) s L k := zIfB he (fun _ => h1) (fun h => by cases h)
theorem zIfF {c a b} (he : ev s c = .bool false) (h1 : Z E B b s L k) : Z E B (.cond c a b) s L k := zIfB he (fun h => by cases h) (fun _ => h1)
theorem zNil {sh} (h : ZK E B k .norm s L) : ZL E B .no sh [] s L k := ⟨fun H hS => goNil (h.out H hS)⟩
/-! ### operations -/
theorem zCore {sh d o l} (h : ∀ H, SL B L H → ∃ v H' L', xdo E T sh o s H = some (v, H') ∧ SL B L' H' ∧ ZL E B (m.add s L) sh l ((d, v) :: s) L' k) : ZL E B m sh (⟨some d, o, none⟩ :: l) s L k := by
  refine ⟨fun H hS => ?_⟩
  obtain ⟨v, H', L', e, hS', hz⟩ := h H hS
  cases m with
  | no => exact goOp (H' := H') e rfl (hz.out H' hS')
  | yes f rs tr =>
    intro th hf
    refine goTOp (H' := H') e rfl (hz.out H' hS' _ ?_)
    have key : ∀ (tr : List (Sl × Lo)) (th : List (Sl × Hp)), Fits B tr th → Fits B (tr ++ [(s, L)]) (th ++ [(s, H)]) := by
      intro tr
      induction tr with
      | nil => intro th h; cases th with | nil => exact ⟨rfl, hS, trivial⟩ | cons _ _ => exact h.elim
      | cons p tr ih => intro th h; cases th with | nil => exact h.elim | cons q th => exact ⟨h.1, h.2.1, ih th h.2.2⟩
    exact key tr th hf
theorem zCore0 {sh o l} (h : ∀ H, SL B L H → ∃ v H' L', xdo E T sh o s H = some (v, H') ∧ SL B L' H' ∧ ZL E B (m.add s L) sh l s L' k) : ZL E B m sh (⟨none, o, none⟩ :: l) s L k := by
  refine ⟨fun H hS => ?_⟩
  obtain ⟨v, H', L', e, hS', hz⟩ := h H hS
  cases m with
  | no => exact goOp0 (H' := H') e rfl (hz.out H' hS')
  | yes f rs tr =>
    intro th hf
    refine goTOp0 (H' := H') e rfl (hz.out H' hS' _ ?_)
    have key : ∀ (tr : List (Sl × Lo)) (th : List (Sl × Hp)), Fits B tr th → Fits B (tr ++ [(s, L)]) (th ++ [(s, H)]) := by
      intro tr
      induction tr with
      | nil => intro th h; cases th with | nil => exact ⟨rfl, hS, trivial⟩ | cons _ _ => exact h.elim
      | cons p tr ih => intro th h; cases th with | nil => exact h.elim | cons q th => exact ⟨h.1, h.2.1, ih th h.2.2⟩
    exact key tr th hf
/-- Is the guarded operation done? It is. -/
theorem zYes {sh d o l j want} (hg : get s j = .bool want) (h : ZL E B m sh (⟨some d, o, none⟩ :: l) s L k) : ZL E B m sh (⟨some d, o, some (j, want)⟩ :: l) s L k := by
  refine ⟨fun H hS => ?_⟩
  have h1 := h.out H hS
  cases m with
  | no =>
    refine ⟨?_⟩
    have := h1.out
    rw [XL_cons, XG_none] at this
    rw [XL_cons, XG_some j want _ _ hg]
    exact ⟨fun _ => this, fun hh => absurd rfl hh⟩
  | yes f rs tr =>
    intro th hf
    refine ⟨?_⟩
    have := (h1 th hf).out
    simp only [XT, XG_none] at this
    simp only [XT, XG_some j want _ _ hg]
    exact ⟨fun _ => this, fun hh => absurd rfl hh⟩
theorem zSkipOp {sh d o l g} (hg : ∀ yes no : Prop, no → XG g s yes no) (h : ZL E B (m.add s L) sh l ((d, .tup []) :: s) L k) : ZL E B m sh (⟨some d, o, g⟩ :: l) s L k := by
  refine ⟨fun H hS => ?_⟩
  have h1 := h.out H hS
  cases m with
  | no => exact ⟨by rw [XL_cons]; exact hg _ _ h1.out⟩
  | yes f rs tr =>
    intro th hf
    refine ⟨?_⟩
    have key : ∀ (tr : List (Sl × Lo)) (th : List (Sl × Hp)), Fits B tr th → Fits B (tr ++ [(s, L)]) (th ++ [(s, H)]) := by
      intro tr
      induction tr with
      | nil => intro th h; cases th with | nil => exact ⟨rfl, hS, trivial⟩ | cons _ _ => exact h.elim
      | cons p tr ih => intro th h; cases th with | nil => exact h.elim | cons q th => exact ⟨h.1, h.2.1, ih th h.2.2⟩
    have := (h1 _ (key tr th hf)).out
    simp only [XT]
    exact hg _ _ this
theorem zNo {sh d o l j want} (hg : get s j = .bool (!want)) (h : ZL E B (m.add s L) sh l ((d, .tup []) :: s) L k) : ZL E B m sh (⟨some d, o, some (j, want)⟩ :: l) s L k :=
  zSkipOp (fun yes no hn => by rw [XG_some j want _ _ hg]; exact ⟨fun hh => (by cases want <;> cases hh), fun _ => hn⟩) h
theorem zNoU {sh d o l j want cs} (hg : get s j = .tup cs) (h : ZL E B (m.add s L) sh l ((d, .tup []) :: s) L k) : ZL E B m sh (⟨some d, o, some (j, want)⟩ :: l) s L k :=
  zSkipOp (fun yes no hn => by simp only [XG, hg]; exact hn) h
theorem zSplitQ {sh d o l j want t q} (hg : get s j = q) (eq : q = .bool t) (h1 : t = true → ZL E B m sh (⟨d, o, some (j, want)⟩ :: l) s L k) (h2 : t = false → ZL E B m sh (⟨d, o, some (j, want)⟩ :: l) s L k) : ZL E B m sh (⟨d, o, some (j, want)⟩ :: l) s L k := by
  cases t
  · exact h2 rfl
  · exact h1 rfl
theorem zSplit {sh d o l j want p q} {_ : Decidable p} (hg : get s j = q) (eq : q = .bool (decide p)) (h1 : p → ZL E B m sh (⟨d, o, some (j, want)⟩ :: l) s L k) (h2 : ¬p → ZL E B m sh (⟨d, o, some (j, want)⟩ :: l) s L k) : ZL E B m sh (⟨d, o, some (j, want)⟩ :: l) s L k := by
  by_cases hp : p
  · exact h1 hp
  · exact h2 hp
/-- An operation that leaves the memory alone. -/
theorem zOp {sh d o l v} {q : Hp → Option (AV × Hp)} (e : ∀ H, SL B L H → Fm B H → xdo E T sh o s H = q H) (eq : ∀ H, q H = some (v, H)) (h : ZL E B (m.add s L) sh l ((d, v) :: s) L k) : ZL E B m sh (⟨some d, o, none⟩ :: l) s L k :=
  zCore fun H hS => ⟨v, H, L, (e H hS hS.fm).trans (eq H), hS, h⟩
theorem zLoad {sh d t a l v} (ad : AV) {b ver j : Nat} (ha : ev s a = ad) (hq : ad = .ptr b ver j) (i : Nat) {u : AV} {tr : Tr} {cs : List Tr} (hi : L[i]? = some (u, tr)) (hu : blkOf u = some (b, ver)) (hc : tr.cs? = some cs) (hl : ldT T t cs j = some v) (h : ZL E B (m.add s L) sh l ((d, v) :: s) L k) : ZL E B m sh (⟨some d, .load t a, none⟩ :: l) s L k :=
  zCore fun H hS => ⟨v, H, L, by rw [xdo_load, ha, hq, hS.load i hi hc hu hl]; rfl, hS, h⟩
theorem zStore {sh t a x l} (ad : AV) {b ver j : Nat} (ha : ev s a = ad) (hq : ad = .ptr b ver j) (i : Nat) {u v : AV} {tr : Tr} {cs cs' : List Tr} {L' : Lo} (hi : L[i]? = some (u, tr)) (hu : blkOf u = some (b, ver)) (hc : tr.cs? = some cs) (hx : ev s x = v) (hl : stT T t cs j v = some cs') (hL : L.set i (u, tr.wc cs') = L') (h : ZL E B (m.add s L) sh l s L' k) : ZL E B m sh (⟨none, .store t a x, none⟩ :: l) s L k :=
  zCore0 fun H hS => by
    obtain ⟨H', e, hS'⟩ := hS.store (x := v) i hi hc hu hl
    exact ⟨.bad, H', L', by rw [xdo_store, ha, hq, hx, e]; rfl, hL ▸ hS', h⟩
/-- A list of numbers that may be read: it came in, or it was made. -/
structure Num (B : Bs) (L : Lo) (u : AV) (l : List Int) : Prop where out : ∀ H, SL B L H → ints H u = some l
/-- What came in is read so. -/
structure Fz (B : Bs) (u : AV) (l : List Int) : Prop where out : ∀ H, Fm B H → ints H u = some l
theorem Num.fz {u l} (h : Fz B u l) : Num B L u l := ⟨fun H hS => h.out H hS.fm⟩
theorem Num.own (i : Nat) {u l t} (hi : L[i]? = some (u, t)) (hn : numsT t = some l) : Num B L u l := ⟨fun H hS => hS.ints i hi hn⟩
theorem zLoadI {sh d t a l} (ad : AV) {u : AV} {j : Int} {n : List Int} (ha : ev s a = ad) (hq : ad = pAt u j) (ht : t = 3 ∨ t = 2) (hn : Num B L u n) (h0 : 0 ≤ j) (h1 : j < n.length) (h : ZL E B (m.add s L) sh l ((d, .int .i64 (nth n j)) :: s) L k) : ZL E B m sh (⟨some d, .load t a, none⟩ :: l) s L k :=
  zCore fun H hS => ⟨_, H, L, by
    rw [xdo_load, ha, hq]
    rcases ht with rfl | rfl
    · rw [aload_nth T3 rfl (hn.out H hS) j h0 h1]; rfl
    · rw [aload_nth T2 rfl (hn.out H hS) j h0 h1]; rfl, hS, h⟩
theorem zStoreI {sh t a x l} (ad : AV) {u : AV} {j : Nat} {n : List Int} {f : Bool} {y : Int} {L' : Lo} (ha : ev s a = ad) (hq : ad = pAt u j) (ht : t = 3 ∨ t = 2) (i : Nat) (hi : L[i]? = some (u, trB f n)) (h1 : j < n.length) (hx : ev s x = .int .i64 y) (hL : L.set i (u, trB f (n.set j y)) = L') (h : ZL E B (m.add s L) sh l s L' k) : ZL E B m sh (⟨none, .store t a x, none⟩ :: l) s L k :=
  zCore0 fun H hS => by
    obtain ⟨H', e, hS'⟩ := hS.storeI i hi ht j h1 y
    exact ⟨.bad, H', L', by rw [xdo_store, ha, hq, hx, e]; rfl, hL ▸ hS', h⟩
theorem zAlloc {sh d e l} {ie : TI} (hT : T e = some ie) (h : ∀ b ver, ZL E B (m.add s L) sh l ((d, .ptr b ver 0) :: s) ((.ptr b ver 0, .bx (ie.zero.map .at)) :: L) k) : ZL E B m sh (⟨some d, .alloc e, none⟩ :: l) s L k :=
  zCore fun H hS => ⟨_, _, _, by simp only [xdo, aop, hT, Option.map_some], hS.new (.bx (ie.zero.map .at)) ie.zero rfl, h _ _⟩
theorem zBox {sh d e x l} {v : AV} (hx : ev s x = v) (h1 : v.cells.all AV.one = true) (h : ∀ b ver, ZL E B (m.add s L) sh l ((d, .ptr b ver 0) :: s) ((.ptr b ver 0, .bx (v.cells.map .at)) :: L) k) : ZL E B m sh (⟨some d, .box e x, none⟩ :: l) s L k :=
  zCore fun H hS => ⟨_, _, _, by simp only [xdo, aop, hx, h1, if_true], hS.new (.bx (v.cells.map .at)) v.cells rfl, h _ _⟩
theorem zBS {sh d t n ps l} {e : Nat} {ie : TI} {cells : List AV} (hD : T.d t = .slice e) (hT : T e = some ie) (hs : n * ie.size ≤ 16777216) (hc : afill (fun j => some (j * ie.size, ie.size)) (rep n ie.zero) (ps.toList.map fun p => (p.1, ev s p.2)) = some cells)
    (h : ∀ b ver, ZL E B (m.add s L) sh l ((d, .sl b ver 0 n ie.size true) :: s) ((.sl b ver 0 n ie.size true, .sl n ie.size true (cells.map .at)) :: L) k) : ZL E B m sh (⟨some d, .buildSlice t n ps, none⟩ :: l) s L k :=
  zCore fun H hS => ⟨_, _, _, by simp only [xdo, aop, hD, hT, Option.bind_some, hs, if_true, hc, Option.map_some], hS.new (.sl n ie.size true (cells.map .at)) cells rfl, h _ _⟩
theorem zBS' {sh d t n ps l} {e : Nat} {ie : TI} {cells : List AV} (hD : T.d t = .slice e) (hT : T e = some ie) (hs : n * ie.size ≤ 16777216) (hc : afill (fun j => some (j * ie.size, ie.size)) (rep n ie.zero) (ps.toList.map fun p => (p.1, ev s p.2)) = some cells)
    (h : ∀ b ver, ZL E B .no sh l ((d, .sl b ver 0 n ie.size true) :: s) ((.sl b ver 0 n ie.size true, .sl n ie.size true (cells.map .at)) :: L) k) : ZL E B .no sh (⟨some d, .buildSlice t n ps, none⟩ :: l) s L k :=
  zCore fun H hS => ⟨_, _, _, by simp only [xdo, aop, hD, hT, Option.bind_some, hs, if_true, hc, Option.map_some], hS.new (.sl n ie.size true (cells.map .at)) cells rfl, h _ _⟩
/-- A call that makes something. -/
theorem zCall' {sh d f xs ts l} {g : Nat} {caps args : List AV} {F : List AV → Hp → Option (AV × Hp)} {t : Tr} (hf : ev s f = .func g caps) (ha : xs.toList.map (ev s) ++ caps = args) (hE : E g = some (.eff F)) (hF : ∀ H, SL B L H → Fm B H → F args H = some (mk t H)) (h : ∀ v, ZL E B .no sh l ((d, v) :: s) ((v, t) :: L) k) : ZL E B .no sh (⟨some d, .call ⟨.value f, xs, ts⟩, none⟩ :: l) s L k :=
  zCore fun H hS => ⟨_, _, _, by rw [xdo_call, hf]; simp only [acall, hE, Option.bind_some, ha, FSem.run]; exact hF H hS hS.fm, hS.called t, h _⟩
/-- A call that leaves the memory alone. -/
theorem zPure' {sh d f xs ts l} {g : Nat} {caps args : List AV} {F : List AV → Hp → Option AV} {v : AV} (hf : ev s f = .func g caps) (ha : xs.toList.map (ev s) ++ caps = args) (hE : E g = some (.pure F)) (hF : ∀ H, SL B L H → Fm B H → F args H = some v) (h : ZL E B .no sh l ((d, v) :: s) L k) : ZL E B .no sh (⟨some d, .call ⟨.value f, xs, ts⟩, none⟩ :: l) s L k :=
  zCore fun H hS => ⟨v, H, L, by rw [xdo_call, hf]; simp only [acall, hE, Option.bind_some, ha, FSem.run, hF H hS hS.fm, Option.map_some], hS, h⟩
theorem Fits.at : ∀ {tr : List (Sl × Lo)} {th : List (Sl × Hp)}, Fits B tr th → ∀ (i : Nat) {p : Sl × Lo}, tr[i]? = some p → ∃ H, th[i]? = some (p.1, H) ∧ SL B p.2 H := by
  intro tr
  induction tr with
  | nil => intro th h i p hi; simp at hi
  | cons q tr ih =>
    intro th h i p hi
    cases th with
    | nil => exact h.elim
    | cons x th =>
      cases i with
      | zero => simp at hi; subst hi; exact ⟨x.2, by simp [← h.1], h.2.1⟩
      | succ i => simpa using ih h.2.2 i (by simpa using hi)
/-- The end of a walk: what is handed back is a tree. -/
theorem zEnd {H0 : Hp} {x : Ex} {rs : List ResultVar} {vs : List AV} {t : Tr} {r : AV} {Hr : Hp} (hx : x = .norm ∨ x = .ret) (e : ∀ H, SL ⟨H0, []⟩ L H → xres T s H rs = some vs) (hg : ∀ H, SL ⟨H0, []⟩ L H → ∃ L', SL ⟨H0, []⟩ ((xret vs, t) :: L') H) (hok : okT H0.c t = true) (hr : mk t H0 = (r, Hr)) :
    ZK E ⟨H0, []⟩ (.fin fun x s' H2 => (x = .norm ∨ x = .ret) ∧ ∃ vs js, xres T s' H2 rs = some vs ∧ Can H0 H2 Hr (xret vs) r js) x s L := by
  refine ⟨fun H hS => ?_⟩
  obtain ⟨L', hS'⟩ := hg H hS
  obtain ⟨bs, h1, h2, h3⟩ := hS'.rx
  simp only [List.map_cons, RXs] at h1
  obtain ⟨v, vs', b1, b2, e1, r1, r2, rfl⟩ := h1
  cases e1
  have hrep := RX.rep (c := H0.c) t hok (fun p hp => (h3 p (by simp [hp])).elim id (fun h => by simp at h)) r1
  have hx' := hS.ext rfl
  refine goEndR (d := H.c) hS.w0 hx'.pre hrep ⟨(List.nodup_append.1 h2).1, fun p hp => ⟨(h3 p (by simp [hp])).elim id (fun h => by simp at h), ?_⟩⟩ hx (e H hS) rfl hr
  obtain ⟨cs, hcs⟩ := RX.live t r1 p hp
  exact lt_of_at hx'.wf hcs
/-- The end of a walk that hands back nothing new. -/
theorem zEndP {H0 : Hp} {x : Ex} {rs : List ResultVar} {vs : List AV} {r : AV} (hx : x = .norm ∨ x = .ret) (e : ∀ H, SL ⟨H0, []⟩ L H → xres T s H rs = some vs) (hr : (xret vs).rel H0.bs.length H0.c [] = r) :
    ZK E ⟨H0, []⟩ (.fin fun x s' H2 => (x = .norm ∨ x = .ret) ∧ ∃ vs js, xres T s' H2 rs = some vs ∧ Can H0 H2 H0 (xret vs) r js) x s L :=
  ⟨fun H hS => goEnd hS.w0 (hS.ext rfl).pre hx (e H hS) rfl hr⟩
end
/- Walking rules that look for what is meant. -/
/-- A block is found, and made another. -/
inductive Fd : Nat → Lo → Nat → Nat → AV → Tr → Tr → Lo → Prop
  | here {L : Lo} {b ver : Nat} {u : AV} {t t' : Tr} : blkOf u = some (b, ver) → Fd 0 ((u, t) :: L) b ver u t t' ((u, t') :: L)
  | there {x : AV × Tr} {i : Nat} {L L' : Lo} {b ver : Nat} {u : AV} {t t' : Tr} : Fd i L b ver u t t' L' → Fd (i + 1) (x :: L) b ver u t t' (x :: L')
/-- A value is found, and made another. -/
inductive Fu : Nat → Lo → AV → Tr → AV → Tr → Lo → Prop
  | here {L : Lo} {u u' : AV} {t t' : Tr} : Fu 0 ((u, t) :: L) u t u' t' ((u', t') :: L)
  | there {x : AV × Tr} {i : Nat} {L L' : Lo} {u u' : AV} {t t' : Tr} : Fu i L u t u' t' L' → Fu (i + 1) (x :: L) u t u' t' (x :: L')
/-- A value is taken out. -/
inductive Fr : Lo → AV → Tr → Lo → Prop
  | here {L : Lo} {u : AV} {t : Tr} : Fr ((u, t) :: L) u t L
  | there {x : AV × Tr} {L L' : Lo} {u : AV} {t : Tr} : Fr L u t L' → Fr (x :: L) u t (x :: L')
theorem Fd.idx {i : Nat} {L L' : Lo} {b ver : Nat} {u : AV} {t t' : Tr} (h : Fd i L b ver u t t' L') : L[i]? = some (u, t) ∧ blkOf u = some (b, ver) ∧ L.set i (u, t') = L' := by
  induction h with
  | here hu => exact ⟨rfl, hu, rfl⟩
  | there _ ih => obtain ⟨h1, h2, h3⟩ := ih; exact ⟨by simpa using h1, h2, by simp [h3]⟩
theorem Fu.idx {i : Nat} {L L' : Lo} {u u' : AV} {t t' : Tr} (h : Fu i L u t u' t' L') : L[i]? = some (u, t) ∧ L.set i (u', t') = L' := by
  induction h with
  | here => exact ⟨rfl, rfl⟩
  | there _ ih => obtain ⟨h1, h3⟩ := ih; exact ⟨by simpa using h1, by simp [h3]⟩
theorem Fr.idx {L L' : Lo} {u : AV} {t : Tr} (h : Fr L u t L') : ∃ i, L[i]? = some (u, t) ∧ L.eraseIdx i = L' := by
  induction h with
  | here => exact ⟨0, rfl, rfl⟩
  | there _ ih => obtain ⟨i, h1, h3⟩ := ih; exact ⟨i + 1, by simpa using h1, by simp [h3]⟩
attribute [simp] T2 T3 T22 T38 T40 D22 D38 D45
section
variable {E : Env} {B : Bs} {s : Sl} {L : Lo} {k : Zt} {m : Md}
theorem zLd {sh d t a l v} {i : Nat} {ad : AV} {b ver j : Nat} {u : AV} {tr : Tr} {cs : List Tr} {L' : Lo} (ha : ev s a = ad) (hq : ad = .ptr b ver j) (hi : Fd i L b ver u tr tr L') (hc : tr.cs? = some cs) {q : Option AV} (hl : ldT T t cs j = q) (hl' : q = some v) (h : ZL E B (m.add s L) sh l ((d, v) :: s) L k) : ZL E B m sh (⟨some d, .load t a, none⟩ :: l) s L k :=
  zLoad ad ha hq i hi.idx.1 hi.idx.2.1 hc (hl.trans hl') h
theorem zSt {sh t a x l} {i : Nat} {ad : AV} {b ver j : Nat} {u v : AV} {tr tr' : Tr} {cs cs' : List Tr} {L' : Tr → Lo} (ha : ev s a = ad) (hq : ad = .ptr b ver j) (hx : ev s x = v) (hi : ∀ t', Fd i L b ver u tr t' (L' t')) (hc : tr.cs? = some cs) {q : Option (List Tr)} (hl : stT T t cs j v = q) (hl' : q = some cs') (ht : tr.wc cs' = tr') (h : ZL E B (m.add s L) sh l s (L' tr') k) : ZL E B m sh (⟨none, .store t a x, none⟩ :: l) s L k :=
  zStore ad ha hq i (hi tr').idx.1 (hi tr').idx.2.1 hc hx (hl.trans hl') (by rw [ht]; exact (hi tr').idx.2.2) h
theorem Num.here {i : Nat} {u : AV} {t : Tr} {L' : Lo} {l : List Int} (h : Fu i L u t u t L') (hn : numsT t = some l) : Num B L u l := .own i h.idx.1 hn
theorem zStI {sh t a x l} {i : Nat} {ad : AV} {u : AV} {j : Nat} {n : List Int} {f : Bool} {y : Int} {L' : Lo} (ha : ev s a = ad) (hq : ad = pAt u j) (ht : t = 3 ∨ t = 2) (hx : ev s x = .int .i64 y) (hi : Fu i L u (trB f n) u (trB f (n.set j y)) L') (h1 : j < n.length) (h : ZL E B (m.add s L) sh l s L' k) : ZL E B m sh (⟨none, .store t a x, none⟩ :: l) s L k :=
  zStoreI ad ha hq ht i hi.idx.1 h1 hx hi.idx.2 h
theorem zStS {sh t a x l} {i : Nat} {ad : AV} {u : AV} {j : Nat} {n : List Int} {y : Int} {L' : Lo} (ha : ev s a = ad) (hq : ad = pAt u j) (ht : t = 3 ∨ t = 2) (hx : ev s x = .int .i64 y) (hi : Fu i L u (trS n) u (trS (n.set j y)) L') (h1 : j < n.length) (h : ZL E B (m.add s L) sh l s L' k) : ZL E B m sh (⟨none, .store t a x, none⟩ :: l) s L k :=
  zStI (f := false) ha hq ht hx (by simpa only [trS_B] using hi) h1 h
theorem zStF {sh t a x l} {i : Nat} {ad : AV} {u : AV} {j : Nat} {n : List Int} {y : Int} {L' : Lo} (ha : ev s a = ad) (hq : ad = pAt u j) (ht : t = 3 ∨ t = 2) (hx : ev s x = .int .i64 y) (hi : Fu i L u (trF n) u (trF (n.set j y)) L') (h1 : j < n.length) (h : ZL E B (m.add s L) sh l s L' k) : ZL E B m sh (⟨none, .store t a x, none⟩ :: l) s L k :=
  zStI (f := true) ha hq ht hx (by simpa only [trF_B] using hi) h1 h
/-- What a list of numbers tells of itself. -/
theorem zNum' {sh l} {i : Nat} {u : AV} {t : Tr} {n : List Int} {L' : Lo} (hi : Fu i L u t u t L') (hn : numsT t = some n) (h : u.one = true → alenS u = some (.int .i64 n.length) → (∀ j, aidxS 1 u (.int .i64 j) = if 0 ≤ j ∧ j < n.length then some (pAt u j) else none) → ZL E B .no sh l s L k) : ZL E B .no sh l s L k :=
  zML fun H hS => have hh := hS.ints i hi.idx.1 hn; h (ints_one' hh) (alenS_ints hh) (aidxS_ints hh .i64)
/-- A result is opened. -/
theorem zTup' {sh l} {v : AV} {ts : List Tr} (h : ∀ vs, vs.length = ts.length → v = .tup vs → ZL E B .no sh l s (vs.zip ts ++ L) k) : ZL E B .no sh l s ((v, .tup ts) :: L) k :=
  zML fun H hS => by
    obtain ⟨vs, e, hl, hS'⟩ := hS.openT (i := 0) rfl
    exact zGL (fun H hS => by
      obtain ⟨vs', e', hl', hS'⟩ := hS.openT (i := 0) rfl
      rw [e] at e'
      cases e'
      exact hS') (h vs hl e)
theorem zAgg' {sh l} {v : AV} {ts : List Tr} (h : ∀ vs, vs.length = ts.length → v = .agg vs → ZL E B .no sh l s (vs.zip ts ++ L) k) : ZL E B .no sh l s ((v, .agg ts) :: L) k :=
  zML fun H hS => by
    obtain ⟨vs, e, hl, hS'⟩ := hS.openA (i := 0) rfl
    exact zGL (fun H hS => by
      obtain ⟨vs', e', hl', hS'⟩ := hS.openA (i := 0) rfl
      rw [e] at e'
      cases e'
      exact hS') (h vs hl e)
theorem zAgg2' {sh l} {v : AV} {t1 t2 : Tr} (h : ∀ v1 v2, v = .agg [v1, v2] → ZL E B .no sh l s ((v1, t1) :: (v2, t2) :: L) k) : ZL E B .no sh l s ((v, .agg [t1, t2]) :: L) k :=
  zAgg' fun vs hl e => by
    match vs, hl with
    | [v1, v2], _ => exact h v1 v2 e
theorem SL.nilI {H : Hp} (h : SL B L H) : SL B ((.nilS, trS []) :: L) H := by
  have := h.leaf .nilS
  simpa [trS] using this
theorem Fz.of {H : Hp} {u : AV} {l : List Int} (h : ints H u = some l) : Fz ⟨H, []⟩ u l := ⟨fun H' hF => ints_ext (fun b k hk => hF.pre b k hk (by simp)) h⟩
theorem Fm.pre' {H H' : Hp} (h : Fm ⟨H, []⟩ H') : Pre H H' := fun b k hk => h.pre b k hk (by simp)
/-! ### what is handed back is put together -/
theorem RXs.perm {H : Hp} {L L' : Lo} (p : L.Perm L') : ∀ {bs : List (Nat × Nat)}, RXs H (L.map Prod.snd) (L.map Prod.fst) bs → ∃ bs', RXs H (L'.map Prod.snd) (L'.map Prod.fst) bs' ∧ bs.Perm bs' := by
  induction p with
  | nil => intro bs h; exact ⟨bs, h, .refl _⟩
  | cons x _ ih =>
    intro bs h
    simp only [List.map_cons, RXs] at h ⊢
    obtain ⟨v, vs, b1, b2, e, h1, h2, rfl⟩ := h
    cases e
    obtain ⟨b3, g1, g2⟩ := ih h2
    exact ⟨b1 ++ b3, ⟨_, _, b1, b3, rfl, h1, g1, rfl⟩, g2.append_left b1⟩
  | swap x y l =>
    intro bs h
    simp only [List.map_cons, RXs] at h ⊢
    obtain ⟨v, vs, b1, b2, e, h1, ⟨v', vs', b3, b4, e', h2, h3, rfl⟩, rfl⟩ := h
    cases e
    cases e'
    refine ⟨b3 ++ (b1 ++ b4), ⟨_, _, b3, _, rfl, h2, ⟨_, _, b1, b4, rfl, h1, h3, rfl⟩, rfl⟩, ?_⟩
    exact List.perm_iff_count.2 fun x => by simp only [List.count_append]; omega
  | trans _ _ ih1 ih2 =>
    intro bs h
    obtain ⟨b1, g1, g2⟩ := ih1 h
    obtain ⟨b2, g3, g4⟩ := ih2 g1
    exact ⟨b2, g3, g2.trans g4⟩
theorem SL.perm {H : Hp} {L' : Lo} (p : L.Perm L') (h : SL B L H) : SL B L' H := by
  obtain ⟨bs, h1, h2, h3⟩ := h.rx
  obtain ⟨bs', g1, g2⟩ := RXs.perm p h1
  exact ⟨h.w0, h.fm, bs', g1, g2.nodup_iff.1 h2, fun x hx => h3 x (g2.mem_iff.2 hx)⟩
theorem Fr.perm {L L' : Lo} {u : AV} {t : Tr} (h : Fr L u t L') : L.Perm ((u, t) :: L') := by
  induction h with
  | here => exact .refl _
  | there _ ih => exact (ih.cons _).trans (.swap _ _ _)
mutual
/-- A tree is put together out of what there is. -/
inductive Tk : Lo → AV → Tr → Lo → Prop
  | leaf {L : Lo} {a : AV} : Tk L a (.at a) L
  | pick {L L' : Lo} {u : AV} {t : Tr} : Fr L u t L' → Tk L u t L'
  | agg {L L' : Lo} {vs : List AV} {ts : List Tr} : Tks L vs ts L' → Tk L (.agg vs) (.agg ts) L'
  | tup {L L' : Lo} {vs : List AV} {ts : List Tr} : Tks L vs ts L' → Tk L (.tup vs) (.tup ts) L'
inductive Tks : Lo → List AV → List Tr → Lo → Prop
  | nil {L : Lo} : Tks L [] [] L
  | cons {L L1 L2 : Lo} {v : AV} {t : Tr} {vs : List AV} {ts : List Tr} : Tk L v t L1 → Tks L1 vs ts L2 → Tks L (v :: vs) (t :: ts) L2
end
theorem Tks.len : ∀ {ts : List Tr} {L : Lo} {vs : List AV} {L' : Lo}, Tks L vs ts L' → vs.length = ts.length
  | [], _, _, _, h => by cases h; rfl
  | _ :: _, _, _, _, h => by cases h with | cons _ h2 => simp [Tks.len h2]
mutual
theorem Tk.sl {H : Hp} : ∀ {t : Tr} {L : Lo} {v : AV} {L' : Lo}, Tk L v t L' → ∀ X : Lo, SL B (L ++ X) H → SL B ((v, t) :: (L' ++ X)) H
  | t, L, v, L', h, X, hS => by
    cases h with
    | leaf => exact hS.leaf _
    | pick h => exact hS.perm (h.perm.append_right X)
    | agg h =>
      rename_i vs ts
      have h1 := Tks.sl h X hS
      have h2 := h1.closeA
      have hl := Tks.len h
      rwa [List.map_fst_zip (by omega), List.map_snd_zip (by omega)] at h2
    | tup h =>
      rename_i vs ts
      have h1 := Tks.sl h X hS
      have h2 := h1.closeT
      have hl := Tks.len h
      rwa [List.map_fst_zip (by omega), List.map_snd_zip (by omega)] at h2
theorem Tks.sl {H : Hp} : ∀ {ts : List Tr} {L : Lo} {vs : List AV} {L' : Lo}, Tks L vs ts L' → ∀ X : Lo, SL B (L ++ X) H → SL B (vs.zip ts ++ (L' ++ X)) H
  | [], L, vs, L', h, X, hS => by cases h; simpa using hS
  | t :: ts, L, vs, L', h, X, hS => by
    cases h with
    | cons h1 h2 =>
      rename_i L1 v vs
      have a1 := Tk.sl h1 X hS
      have a2 := Tks.sl h2 (X ++ [(v, t)]) (a1.perm (by rw [← List.append_assoc]; exact (List.perm_append_singleton _ _).symm))
      refine a2.perm ?_
      simp only [List.zip_cons_cons, List.cons_append, ← List.append_assoc]
      exact List.perm_append_singleton _ _
end
/-- The end of a walk: a tree is handed back. -/
theorem zFin {H0 : Hp} {x : Ex} {rs : List ResultVar} {vs : List AV} {t : Tr} {r : AV} {Hr : Hp} (hx : x = .norm ∨ x = .ret) (e : ∀ H, SL ⟨H0, []⟩ L H → xres T s H rs = some vs) (hg : ∃ L', Tk L (xret vs) t L') (hok : okT H0.c t = true) (hr : mk t H0 = (r, Hr)) :
    ZK E ⟨H0, []⟩ (.fin fun x s' H2 => (x = .norm ∨ x = .ret) ∧ ∃ vs js, xres T s' H2 rs = some vs ∧ Can H0 H2 Hr (xret vs) r js) x s L :=
  have ⟨L', hg⟩ := hg; zEnd hx e (fun H hS => ⟨L' ++ [], hg.sl [] (by simpa using hS)⟩) hok hr
/-! ### the same rules; what they ask for is found -/
theorem yYes' {sh d o l j want} (h : ZL E B .no sh (⟨some d, o, none⟩ :: l) s L k) (hg : get s j = .bool want := by simp [*]; first | done | fail) : ZL E B .no sh (⟨some d, o, some (j, want)⟩ :: l) s L k := zYes hg h
theorem yNo' {sh d o l j want} (h : ZL E B .no sh l ((d, .tup []) :: s) L k) (hg : get s j = .bool (!want) := by simp [*]; first | done | fail) : ZL E B .no sh (⟨some d, o, some (j, want)⟩ :: l) s L k := zNo hg h
theorem yNoU' {sh d o l j want cs} (h : ZL E B .no sh l ((d, .tup []) :: s) L k) (hg : get s j = .tup cs := by simp; exact rfl) : ZL E B .no sh (⟨some d, o, some (j, want)⟩ :: l) s L k := zNoU hg h
theorem yLd' {sh d t a l v} {i : Nat} {ad : AV} {b ver j : Nat} {u : AV} {tr : Tr} {cs : List Tr} {L' : Lo} {q : Option AV} (h : ZL E B .no sh l ((d, v) :: s) L k) (ha : ev s a = ad := by simp; exact rfl) (hq : ad = .ptr b ver j := by rfl) (hi : Fd i L b ver u tr tr L' := by (repeat (first | exact Fd.here rfl | apply Fd.there)); first | done | fail) (hc : tr.cs? = some cs := by rfl) (hl : ldT T t cs j = q := by simp [ldT, lvs, *]; exact rfl) (hl' : q = some v := by rfl) : ZL E B .no sh (⟨some d, .load t a, none⟩ :: l) s L k := zLd ha hq hi hc hl hl' h
theorem yLdI' {sh d t a l} {ad : AV} {u : AV} {j : Int} {n : List Int} (h : ZL E B .no sh l ((d, .int .i64 (nth n j)) :: s) L k) (ha : ev s a = ad := by simp; exact rfl) (hq : ad = pAt u j := by rfl) (ht : t = 3 ∨ t = 2 := by simp; first | done | fail) (hn : Num B L u n := by first | exact Num.fz (by assumption) | exact Num.fz (Hide.out (by assumption)) | (apply Num.here (t := trS _); (· ((repeat (first | exact Fu.here | apply Fu.there)); done)); (· exact numsT_S (by first | omega | (simp; omega)))) | (apply Num.here (t := trF _); (· ((repeat (first | exact Fu.here | apply Fu.there)); done)); (· exact numsT_F (by first | omega | (simp; omega)))) | (apply Num.here (t := trC _); (· ((repeat (first | exact Fu.here | apply Fu.there)); done)); (· exact numsT_C (by first | omega | (simp; omega)))) | (apply Num.here (t := trB true _); (· ((repeat (first | exact Fu.here | apply Fu.there)); done)); (· exact numsT_F (by first | omega | (simp; omega)))) | (apply Num.here (t := trB false _); (· ((repeat (first | exact Fu.here | apply Fu.there)); done)); (· exact numsT_S (by first | omega | (simp; omega))))) (h0 : 0 ≤ j := by first | omega | (simp; omega)) (h1 : j < n.length := by first | omega | (simp; omega)) : ZL E B .no sh (⟨some d, .load t a, none⟩ :: l) s L k := zLoadI ad ha hq ht hn h0 h1 h
theorem yStS' {sh t a x l} {i : Nat} {ad : AV} {u : AV} {j : Nat} {n : List Int} {y : Int} {L' : Lo} (h : ZL E B .no sh l s L' k) (ha : ev s a = ad := by simp; exact rfl) (hq : ad = pAt u j := by rfl) (ht : t = 3 ∨ t = 2 := by simp; first | done | fail) (hx : ev s x = .int .i64 y := by simp; exact rfl) (hi : Fu i L u (trS n) u (trS (n.set j y)) L' := by (repeat (first | exact Fu.here | apply Fu.there)); first | done | fail) (h1 : j < n.length := by first | omega | (simp; omega)) : ZL E B .no sh (⟨none, .store t a x, none⟩ :: l) s L k := zStS ha hq ht hx hi h1 h
theorem yStF' {sh t a x l} {i : Nat} {ad : AV} {u : AV} {j : Nat} {n : List Int} {y : Int} {L' : Lo} (h : ZL E B .no sh l s L' k) (ha : ev s a = ad := by simp; exact rfl) (hq : ad = pAt u j := by rfl) (ht : t = 3 ∨ t = 2 := by simp; first | done | fail) (hx : ev s x = .int .i64 y := by simp; exact rfl) (hi : Fu i L u (trF n) u (trF (n.set j y)) L' := by (repeat (first | exact Fu.here | apply Fu.there)); first | done | fail) (h1 : j < n.length := by first | omega | (simp; omega)) : ZL E B .no sh (⟨none, .store t a x, none⟩ :: l) s L k := zStF ha hq ht hx hi h1 h
theorem ySt' {sh t a x l} {i : Nat} {ad : AV} {b ver j : Nat} {u v : AV} {tr tr' : Tr} {cs cs' : List Tr} {L' : Tr → Lo} {q : Option (List Tr)} (h : ZL E B .no sh l s (L' tr') k) (ha : ev s a = ad := by simp; exact rfl) (hq : ad = .ptr b ver j := by rfl) (hx : ev s x = v := by simp; exact rfl) (hi : ∀ t', Fd i L b ver u tr t' (L' t') := by intro _; (repeat (first | exact Fd.here rfl | apply Fd.there)); first | done | fail) (hc : tr.cs? = some cs := by rfl) (hl : stT T t cs j v = q := by simp [stT, setT, AV.cells, *]; exact rfl) (hl' : q = some cs' := by rfl) (ht : tr.wc cs' = tr' := by dsimp only [Tr.wc]; try exact rfl; first | done | fail) : ZL E B .no sh (⟨none, .store t a x, none⟩ :: l) s L k := zSt ha hq hx hi hc hl hl' ht h
theorem yBS' {sh d t n ps l} {e : Nat} {ie : TI} {cells : List AV} {cs : List Tr} {es : Nat} (h : ∀ b ver, ZL E B .no sh l ((d, .sl b ver 0 n es true) :: s) ((.sl b ver 0 n es true, .sl n es true cs) :: L) k) (hD : T.d t = .slice e := by simp; exact rfl) (hT : T e = some ie := by simp; exact rfl) (he : ie.size = es := by rfl) (hs : n * ie.size ≤ 16777216 := by simp; first | done | fail) (hc : afill (fun j => some (j * ie.size, ie.size)) (rep n ie.zero) (ps.toList.map fun p => (p.1, ev s p.2)) = some cells := by simp [afill, rep, AV.cells, setAll, *]; first | done | exact rfl | exact ⟨rfl, rfl⟩ | fail) (hm : cells.map .at = cs := by dsimp only [List.map]; try exact rfl; first | done | fail) : ZL E B .no sh (⟨some d, .buildSlice t n ps, none⟩ :: l) s L k := by
  subst hm
  subst he
  exact zBS hD hT hs hc h
theorem yAlloc' {sh d e l} {ie : TI} {cs : List Tr} (h : ∀ b ver, ZL E B .no sh l ((d, .ptr b ver 0) :: s) ((.ptr b ver 0, .bx cs) :: L) k) (hT : T e = some ie := by simp; exact rfl) (hm : ie.zero.map .at = cs := by dsimp only [List.map]; try exact rfl; first | done | fail) : ZL E B .no sh (⟨some d, .alloc e, none⟩ :: l) s L k := by
  subst hm
  exact zAlloc hT h
theorem yBox' {sh d e x l} {v : AV} {cs : List Tr} (h : ∀ b ver, ZL E B .no sh l ((d, .ptr b ver 0) :: s) ((.ptr b ver 0, .bx cs) :: L) k) (hx : ev s x = v := by simp; exact rfl) (h1 : v.cells.all AV.one = true := by simp [AV.cells, *]; first | done | fail) (hm : v.cells.map .at = cs := by dsimp only [AV.cells, List.map]; try exact rfl; first | done | fail) : ZL E B .no sh (⟨some d, .box e x, none⟩ :: l) s L k := by
  subst hm
  exact zBox hx h1 h
theorem yOp' {sh d o l v} {q : Hp → Option (AV × Hp)} (h : ZL E B .no sh l ((d, v) :: s) L k) (e : ∀ H, SL B L H → Fm B H → xdo E T sh o s H = q H := by intro _ _ _; simp [*]; try exact rfl; first | done | fail) (eq : ∀ H, q H = some (v, H) := by intro _; exact rfl) : ZL E B .no sh (⟨some d, o, none⟩ :: l) s L k := zOp e eq h
theorem ySplit' {sh d o l j want p q} {_ : Decidable p} (h1 : p → ZL E B .no sh (⟨d, o, some (j, want)⟩ :: l) s L k) (h2 : ¬p → ZL E B .no sh (⟨d, o, some (j, want)⟩ :: l) s L k) (hg : get s j = q := by simp; exact rfl) (eq : q = .bool (decide p) := by with_reducible exact rfl) : ZL E B .no sh (⟨d, o, some (j, want)⟩ :: l) s L k := zSplit hg eq h1 h2
theorem ySplitQ' {sh d o l j want t q} (h1 : t = true → ZL E B .no sh (⟨d, o, some (j, want)⟩ :: l) s L k) (h2 : t = false → ZL E B .no sh (⟨d, o, some (j, want)⟩ :: l) s L k) (hg : get s j = q := by simp; exact rfl) (eq : q = .bool t := by exact rfl) : ZL E B .no sh (⟨d, o, some (j, want)⟩ :: l) s L k := zSplitQ hg eq h1 h2
theorem yIfT {c a b} (h1 : Z E B a s L k) (he : ev s c = .bool true := by simp [*]; first | done | fail) : Z E B (.cond c a b) s L k := zIfT he h1
theorem yIfF {c a b} (h1 : Z E B b s L k) (he : ev s c = .bool false := by simp [*]; first | done | fail) : Z E B (.cond c a b) s L k := zIfF he h1
theorem yIf {c a b p q} {_ : Decidable p} (h1 : p → Z E B a s L k) (h2 : ¬p → Z E B b s L k) (he : ev s c = q := by simp; exact rfl) (eq : q = .bool (decide p) := by with_reducible exact rfl) : Z E B (.cond c a b) s L k := zIf he eq h1 h2
theorem yIfQ {c a b t q} (h1 : t = true → Z E B a s L k) (h2 : t = false → Z E B b s L k) (he : ev s c = q := by simp; exact rfl) (eq : q = .bool t := by exact rfl) : Z E B (.cond c a b) s L k := zIfQ he eq h1 h2
theorem yBlkX {id j : Nat} (h : ZK E B k (.exit j) s L) (hj : (j == id) = false := by rfl) : ZK E B (.blk id k) (.exit j) s L := zBlkX hj h
end
/- A walk begins anew over what it has made; lists of tensors copied. -/
section
variable {E : Env} {s : Sl} {L : Lo} {k : Zt} {m : Md}
/-- An operation that makes one new block. -/
theorem zNew' {B : Bs} {sh d o l} (t : Tr) (cells : List AV) (hc : t.cs? = some (cells.map .at)) (e : ∀ H, SL B L H → Fm B H → xdo E T sh o s H = some (t.hd H.bs.length H.c, H.new cells)) (h : ∀ b ver, ZL E B .no sh l ((d, t.hd b ver) :: s) ((t.hd b ver, t) :: L) k) : ZL E B .no sh (⟨some d, o, none⟩ :: l) s L k :=
  zCore fun H hS => ⟨_, _, _, e H hS hS.fm, hS.new t cells hc, h _ _⟩
end
/- Functions in short form. -/
/-! parquetry/parquetrylaw23.may (4 parameters; calls 56 parquetry/parquetryref14.Right, 58 parquetry/parquetryref14.Spec, 101 parquetry/parquetryref1.Right) -/
def A118 : Ann := { drop := fun i => false }
noncomputable def c118 : Cc :=
  (.seq (.reg false [⟨some 8, (Op.assign (Operand.const (Value.bool false))), none⟩])
  (.seq (.reg false [⟨some 9, (Op.move (Operand.tmp 0)), none⟩,
    ⟨some 10, (Op.call { callee := (Callee.value (Operand.func 56)), args := #[(Operand.tmp 9)], argTypes := #[22] }), none⟩,
    ⟨some 11, (Op.move (Operand.tmp 10)), none⟩,
    ⟨some 12, (Op.move (Operand.tmp 1)), some (11, true)⟩,
    ⟨some 13, (Op.call { callee := (Callee.value (Operand.func 101)), args := #[(Operand.tmp 12)], argTypes := #[22] }), some (11, true)⟩,
    ⟨some 14, (Op.pick (Operand.tmp 11) (Operand.tmp 13) (Operand.const (Value.bool false))), none⟩,
    ⟨some 15, (Op.move (Operand.tmp 14)), none⟩,
    ⟨some 16, (Op.move (Operand.tmp 0)), some (15, true)⟩,
    ⟨some 17, (Op.move (Operand.tmp 2)), some (15, true)⟩,
    ⟨some 18, (Op.move (Operand.tmp 1)), some (15, true)⟩,
    ⟨some 19, (Op.call { callee := (Callee.builtin Builtin.len), args := #[(Operand.tmp 18)], argTypes := #[22] }), some (15, true)⟩,
    ⟨some 20, (Op.call { callee := (Callee.value (Operand.func 58)), args := #[(Operand.tmp 16), (Operand.tmp 17), (Operand.tmp 19)], argTypes := #[22, 22, 3] }), some (15, true)⟩,
    ⟨some 21, (Op.pick (Operand.tmp 15) (Operand.tmp 20) (Operand.const (Value.bool false))), none⟩,
    ⟨some 22, (Op.move (Operand.tmp 21)), none⟩,
    ⟨some 23, (Op.move (Operand.tmp 0)), some (22, true)⟩,
    ⟨some 24, (Op.move (Operand.tmp 3)), some (22, true)⟩,
    ⟨some 25, (Op.move (Operand.tmp 1)), some (22, true)⟩,
    ⟨some 26, (Op.call { callee := (Callee.builtin Builtin.len), args := #[(Operand.tmp 25)], argTypes := #[22] }), some (22, true)⟩,
    ⟨some 27, (Op.call { callee := (Callee.value (Operand.func 58)), args := #[(Operand.tmp 23), (Operand.tmp 24), (Operand.tmp 26)], argTypes := #[22, 22, 3] }), some (22, true)⟩,
    ⟨some 28, (Op.pick (Operand.tmp 22) (Operand.tmp 27) (Operand.const (Value.bool false))), none⟩,
    ⟨some 8, (Op.assign (Operand.tmp 28)), none⟩])
  .ret))
noncomputable def b118 : Code := Try.f118.body.getD .skip
theorem hb118 : Try.f118.body = some b118 := by kernel_rfl
theorem sh118 : shortC A118 b118 = c118 := by kernel_rfl
def rs118 : List ResultVar := [(ResultVar.tmp 8)]
theorem hr118 : Try.f118.results.toList = rs118 := by kernel_rfl
/-! parquetry/move.Bound (4 parameters; calls 88 parquetry/mesh.Devices, 150 parquetry/move.may) -/
def A119 : Ann := { drop := fun i => false }
noncomputable def c119 : Cc :=
  (.seq (.reg false [⟨some 8, (Op.assign (Operand.const (Value.int IntKind.i64 0))), none⟩])
  (.seq (.seq (.reg false [⟨some 10, (Op.move (Operand.tmp 0)), none⟩,
    ⟨some 11, (Op.move (Operand.tmp 1)), none⟩,
    ⟨some 12, (Op.move (Operand.tmp 2)), none⟩,
    ⟨some 13, (Op.move (Operand.tmp 3)), none⟩,
    ⟨some 14, (Op.call { callee := (Callee.value (Operand.func 150)), args := #[(Operand.tmp 10), (Operand.tmp 11), (Operand.tmp 12), (Operand.tmp 13)], argTypes := #[22, 22, 22, 22] }), none⟩,
    ⟨some 15, (Op.unOp UnOp.not 4 (Operand.tmp 14)), none⟩])
  (.cond (Operand.tmp 15)
    (.seq (.reg false [⟨some 8, (Op.assign (Operand.const (Value.int IntKind.i64 0))), none⟩])
    .ret)
    .skip))
  (.seq (.reg false [⟨some 16, (Op.move (Operand.tmp 0)), none⟩,
    ⟨some 17, (Op.call { callee := (Callee.value (Operand.func 88)), args := #[(Operand.tmp 16)], argTypes := #[22] }), none⟩,
    ⟨some 9, (Op.assign (Operand.tmp 17)), none⟩])
  (.seq (.reg false [⟨some 18, (Op.move (Operand.tmp 9)), none⟩,
    ⟨some 19, (Op.binOp BinOp.mul 3 (Operand.const (Value.int IntKind.i64 64)) (Operand.tmp 18) 3), none⟩,
    ⟨some 20, (Op.move (Operand.tmp 9)), none⟩,
    ⟨some 21, (Op.binOp BinOp.mul 3 (Operand.tmp 19) (Operand.tmp 20) 3), none⟩,
    ⟨some 22, (Op.binOp BinOp.add 3 (Operand.tmp 21) (Operand.const (Value.int IntKind.i64 64)) 3), none⟩,
    ⟨some 8, (Op.assign (Operand.tmp 22)), none⟩])
  .ret))))
noncomputable def b119 : Code := Try.f119.body.getD .skip
theorem hb119 : Try.f119.body = some b119 := by kernel_rfl
theorem sh119 : shortC A119 b119 = c119 := by kernel_rfl
def rs119 : List ResultVar := [(ResultVar.tmp 8)]
theorem hr119 : Try.f119.results.toList = rs119 := by kernel_rfl
/-! parquetry/move.may (4 parameters; calls 63 parquetry/spec.Right, 89 parquetry/mesh.Right, 90 parquetry/shape.Right) -/
def A150 : Ann := { drop := fun i => false }
noncomputable def c150 : Cc :=
  (.seq (.reg false [⟨some 8, (Op.assign (Operand.const (Value.bool false))), none⟩])
  (.seq (.reg false [⟨some 9, (Op.move (Operand.tmp 0)), none⟩,
    ⟨some 10, (Op.call { callee := (Callee.value (Operand.func 89)), args := #[(Operand.tmp 9)], argTypes := #[22] }), none⟩,
    ⟨some 11, (Op.move (Operand.tmp 10)), none⟩,
    ⟨some 12, (Op.move (Operand.tmp 1)), some (11, true)⟩,
    ⟨some 13, (Op.call { callee := (Callee.value (Operand.func 90)), args := #[(Operand.tmp 12)], argTypes := #[22] }), some (11, true)⟩,
    ⟨some 14, (Op.pick (Operand.tmp 11) (Operand.tmp 13) (Operand.const (Value.bool false))), none⟩,
    ⟨some 15, (Op.move (Operand.tmp 14)), none⟩,
    ⟨some 16, (Op.move (Operand.tmp 0)), some (15, true)⟩,
    ⟨some 17, (Op.move (Operand.tmp 2)), some (15, true)⟩,
    ⟨some 18, (Op.move (Operand.tmp 1)), some (15, true)⟩,
    ⟨some 19, (Op.call { callee := (Callee.builtin Builtin.len), args := #[(Operand.tmp 18)], argTypes := #[22] }), some (15, true)⟩,
    ⟨some 20, (Op.call { callee := (Callee.value (Operand.func 63)), args := #[(Operand.tmp 16), (Operand.tmp 17), (Operand.tmp 19)], argTypes := #[22, 22, 3] }), some (15, true)⟩,
    ⟨some 21, (Op.pick (Operand.tmp 15) (Operand.tmp 20) (Operand.const (Value.bool false))), none⟩,
    ⟨some 22, (Op.move (Operand.tmp 21)), none⟩,
    ⟨some 23, (Op.move (Operand.tmp 0)), some (22, true)⟩,
    ⟨some 24, (Op.move (Operand.tmp 3)), some (22, true)⟩,
    ⟨some 25, (Op.move (Operand.tmp 1)), some (22, true)⟩,
    ⟨some 26, (Op.call { callee := (Callee.builtin Builtin.len), args := #[(Operand.tmp 25)], argTypes := #[22] }), some (22, true)⟩,
    ⟨some 27, (Op.call { callee := (Callee.value (Operand.func 63)), args := #[(Operand.tmp 23), (Operand.tmp 24), (Operand.tmp 26)], argTypes := #[22, 22, 3] }), some (22, true)⟩,
    ⟨some 28, (Op.pick (Operand.tmp 22) (Operand.tmp 27) (Operand.const (Value.bool false))), none⟩,
    ⟨some 8, (Op.assign (Operand.tmp 28)), none⟩])
  .ret))
noncomputable def b150 : Code := Try.f150.body.getD .skip
theorem hb150 : Try.f150.body = some b150 := by kernel_rfl
theorem sh150 : shortC A150 b150 = c150 := by kernel_rfl
def rs150 : List ResultVar := [(ResultVar.tmp 8)]
theorem hr150 : Try.f150.results.toList = rs150 := by kernel_rfl
/-! (*parquetry/code.Maker).Devices (1 parameters; calls none) -/
def A120 : Ann := { drop := fun i => false }
noncomputable def c120 : Cc :=
  (.seq (.reg false [⟨some 2, (Op.assign (Operand.const (Value.int IntKind.i64 0))), none⟩])
  (.seq (.reg false [⟨some 3, (Op.move (Operand.tmp 0)), none⟩,
    ⟨some 4, (Op.nilCheck (Operand.tmp 3)), none⟩,
    ⟨some 5, (Op.fieldAddr 135 (Operand.tmp 4) 0), none⟩,
    ⟨some 6, (Op.load 70 (Operand.tmp 5)), none⟩,
    ⟨some 7, (Op.call { callee := (Callee.builtin Builtin.len), args := #[(Operand.tmp 6)], argTypes := #[70] }), none⟩,
    ⟨some 2, (Op.assign (Operand.tmp 7)), none⟩])
  .ret))
noncomputable def b120 : Code := Try.f120.body.getD .skip
theorem hb120 : Try.f120.body = some b120 := by kernel_rfl
theorem sh120 : shortC A120 b120 = c120 := by kernel_rfl
def rs120 : List ResultVar := [(ResultVar.tmp 2)]
theorem hr120 : Try.f120.results.toList = rs120 := by kernel_rfl
/-! parquetry/parquetrylaw23.count (1 parameters; calls none) -/
def A122 : Ann := { live := fun i => if i = 3 then [0, 3, 6, 7] else [], drop := fun i => false }
noncomputable def c122 : Cc :=
  (.seq (.reg false [⟨some 2, (Op.assign (Operand.const (Value.int IntKind.i64 0))), none⟩])
  (.seq (.reg false [⟨some 3, (Op.assign (Operand.const (Value.int IntKind.i64 0))), none⟩])
  (.seq (.seq (.reg false [⟨some 5, (Op.move (Operand.tmp 0)), none⟩,
    ⟨some 6, (Op.call { callee := (Callee.builtin Builtin.len), args := #[(Operand.tmp 5)], argTypes := #[70] }), none⟩,
    ⟨some 7, (Op.move (Operand.const (Value.int IntKind.i64 0))), none⟩])
  (.block 0 (.loop [0, 3, 6, 7] false
    (.seq (.reg false [⟨some 8, (Op.binOp BinOp.lss 3 (Operand.tmp 7) (Operand.tmp 6) 3), none⟩])
    (.seq (.cond (Operand.tmp 8)
      .skip
      (.exit 0))
    (.seq (.block 1 (.seq (.reg false [⟨some 9, (Op.move (Operand.tmp 7)), none⟩,
      ⟨some 4, (Op.assign (Operand.tmp 9)), none⟩])
    (.reg false [⟨some 10, (Op.move (Operand.tmp 3)), none⟩,
      ⟨some 11, (Op.move (Operand.tmp 0)), none⟩,
      ⟨some 12, (Op.move (Operand.tmp 4)), none⟩,
      ⟨some 13, (Op.indexAddr 70 (Operand.tmp 11) (Operand.tmp 12)), none⟩,
      ⟨some 14, (Op.load 141 (Operand.tmp 13)), none⟩,
      ⟨some 15, (Op.call { callee := (Callee.builtin Builtin.len), args := #[(Operand.tmp 14)], argTypes := #[141] }), none⟩,
      ⟨some 16, (Op.binOp BinOp.add 3 (Operand.tmp 10) (Operand.tmp 15) 3), none⟩,
      ⟨some 3, (Op.assign (Operand.tmp 16)), none⟩])))
    (.reg false [⟨some 17, (Op.binOp BinOp.add 3 (Operand.tmp 7) (Operand.const (Value.int IntKind.i64 1)) 3), none⟩,
      ⟨some 7, (Op.move (Operand.tmp 17)), none⟩])))))))
  (.seq (.reg false [⟨some 18, (Op.move (Operand.tmp 3)), none⟩,
    ⟨some 2, (Op.assign (Operand.tmp 18)), none⟩])
  .ret))))
noncomputable def b122 : Code := Try.f122.body.getD .skip
theorem hb122 : Try.f122.body = some b122 := by kernel_rfl
theorem sh122 : shortC A122 b122 = c122 := by kernel_rfl
def rs122 : List ResultVar := [(ResultVar.tmp 2)]
theorem hr122 : Try.f122.results.toList = rs122 := by kernel_rfl
/-! slices.ContainsFunc[[]int,int] (2 parameters; calls 169 slices.IndexFunc[[]int,int]) -/
def A151 : Ann := { drop := fun i => false }
noncomputable def c151 : Cc :=
  (.seq (.reg false [⟨some 4, (Op.assign (Operand.const (Value.bool false))), none⟩])
  (.seq (.reg false [⟨some 5, (Op.move (Operand.tmp 0)), none⟩,
    ⟨some 6, (Op.move (Operand.tmp 1)), none⟩,
    ⟨some 7, (Op.call { callee := (Callee.value (Operand.func 169)), args := #[(Operand.tmp 5), (Operand.tmp 6)], argTypes := #[22, 122] }), none⟩,
    ⟨some 8, (Op.binOp BinOp.geq 3 (Operand.tmp 7) (Operand.const (Value.int IntKind.i64 0)) 3), none⟩,
    ⟨some 4, (Op.assign (Operand.tmp 8)), none⟩])
  .ret))
noncomputable def b151 : Code := Try.f151.body.getD .skip
theorem hb151 : Try.f151.body = some b151 := by kernel_rfl
theorem sh151 : shortC A151 b151 = c151 := by kernel_rfl
def rs151 : List ResultVar := [(ResultVar.tmp 4)]
theorem hr151 : Try.f151.results.toList = rs151 := by kernel_rfl
/-! parquetry/move.Do$1 (1 parameters; calls none) -/
def A152 : Ann := { drop := fun i => false }
noncomputable def c152 : Cc :=
  (.seq (.reg false [⟨some 2, (Op.assign (Operand.const (Value.bool false))), none⟩])
  (.seq (.reg false [⟨some 3, (Op.move (Operand.tmp 0)), none⟩,
    ⟨some 4, (Op.binOp BinOp.lss 3 (Operand.tmp 3) (Operand.const (Value.int IntKind.i64 0)) 3), none⟩,
    ⟨some 2, (Op.assign (Operand.tmp 4)), none⟩])
  .ret))
noncomputable def b152 : Code := Try.f152.body.getD .skip
theorem hb152 : Try.f152.body = some b152 := by kernel_rfl
theorem sh152 : shortC A152 b152 = c152 := by kernel_rfl
def rs152 : List ResultVar := [(ResultVar.tmp 2)]
theorem hr152 : Try.f152.results.toList = rs152 := by kernel_rfl
/-! (*parquetry/code.Maker).Programs (1 parameters; calls 117 parquetry/code.Copy) -/
def A52 : Ann := { drop := fun i => false }
noncomputable def c52 : Cc :=
  (.seq (.reg false [⟨some 2, (Op.assign (Operand.const (Value.slice none 0 0))), none⟩])
  (.seq (.reg false [⟨some 3, (Op.move (Operand.tmp 0)), none⟩,
    ⟨some 4, (Op.nilCheck (Operand.tmp 3)), none⟩,
    ⟨some 5, (Op.fieldAddr 135 (Operand.tmp 4) 0), none⟩,
    ⟨some 6, (Op.load 70 (Operand.tmp 5)), none⟩,
    ⟨some 7, (Op.call { callee := (Callee.value (Operand.func 117)), args := #[(Operand.tmp 6)], argTypes := #[70] }), none⟩,
    ⟨some 2, (Op.assign (Operand.tmp 7)), none⟩])
  .ret))
noncomputable def b52 : Code := Try.f52.body.getD .skip
theorem hb52 : Try.f52.body = some b52 := by kernel_rfl
theorem sh52 : shortC A52 b52 = c52 := by kernel_rfl
def rs52 : List ResultVar := [(ResultVar.tmp 2)]
theorem hr52 : Try.f52.results.toList = rs52 := by kernel_rfl
/-! parquetry/code.Copy (1 parameters; calls 132 parquetry/code.own) -/
def A117 : Ann := { recs := fun i => if i = 8 then [(0, 8), (0, 9), (0, 10), (1, 8), (1, 9), (1, 10), (2, 8), (2, 9), (3, 8), (3, 9), (4, 8), (4, 9), (5, 8), (5, 9)] else [], live := fun i => if i = 3 then [3, 11, 12, 13] else if i = 6 then [3, 4, 11, 12, 13, 18, 19, 20] else [], drop := fun i => false }
noncomputable def c117 : Cc :=
  (.seq (.reg false [⟨some 2, (Op.assign (Operand.const (Value.slice none 0 0))), none⟩])
  (.seq (.reg false [⟨some 8, (Op.move (Operand.tmp 0)), none⟩,
    ⟨some 9, (Op.call { callee := (Callee.builtin Builtin.len), args := #[(Operand.tmp 8)], argTypes := #[70] }), none⟩,
    ⟨some 10, (Op.makeSlice 70 (Operand.tmp 9) (Operand.tmp 9)), none⟩,
    ⟨some 3, (Op.assign (Operand.tmp 10)), none⟩])
  (.seq (.seq (.reg false [⟨some 11, (Op.move (Operand.tmp 0)), none⟩,
    ⟨some 12, (Op.call { callee := (Callee.builtin Builtin.len), args := #[(Operand.tmp 11)], argTypes := #[70] }), none⟩,
    ⟨some 13, (Op.move (Operand.const (Value.int IntKind.i64 0))), none⟩])
  (.block 0 (.loop [3, 11, 12, 13] false
    (.seq (.reg false [⟨some 14, (Op.binOp BinOp.lss 3 (Operand.tmp 13) (Operand.tmp 12) 3), none⟩])
    (.seq (.cond (Operand.tmp 14)
      .skip
      (.exit 0))
    (.seq (.block 1 (.seq (.reg false [⟨some 15, (Op.move (Operand.tmp 13)), none⟩,
      ⟨some 16, (Op.indexAddr 70 (Operand.tmp 11) (Operand.tmp 13)), none⟩,
      ⟨some 17, (Op.load 141 (Operand.tmp 16)), none⟩,
      ⟨some 4, (Op.assign (Operand.tmp 15)), none⟩,
      ⟨some 5, (Op.assign (Operand.tmp 17)), none⟩])
    (.seq (.reg false [⟨some 18, (Op.move (Operand.tmp 5)), none⟩,
      ⟨some 19, (Op.call { callee := (Callee.builtin Builtin.len), args := #[(Operand.tmp 18)], argTypes := #[141] }), none⟩,
      ⟨some 20, (Op.move (Operand.const (Value.int IntKind.i64 0))), none⟩])
    (.block 2 (.loop [3, 4, 11, 12, 13, 18, 19, 20] false
      (.seq (.reg false [⟨some 21, (Op.binOp BinOp.lss 3 (Operand.tmp 20) (Operand.tmp 19) 3), none⟩])
      (.seq (.cond (Operand.tmp 21)
        .skip
        (.exit 2))
      (.seq (.block 3 (.seq (.reg false [⟨some 22, (Op.indexAddr 141 (Operand.tmp 18) (Operand.tmp 20)), none⟩,
        ⟨some 23, (Op.load 103 (Operand.tmp 22)), none⟩,
        ⟨some 7, (Op.alloc 103), none⟩,
        ⟨none, (Op.store 103 (Operand.tmp 7) (Operand.tmp 23)), none⟩])
      (.drw false [⟨some 24, (Op.move (Operand.tmp 3)), none⟩,
        ⟨some 25, (Op.move (Operand.tmp 4)), none⟩,
        ⟨some 26, (Op.move (Operand.tmp 3)), none⟩,
        ⟨some 27, (Op.move (Operand.tmp 4)), none⟩,
        ⟨some 28, (Op.indexAddr 70 (Operand.tmp 26) (Operand.tmp 27)), none⟩,
        ⟨some 29, (Op.load 141 (Operand.tmp 28)), none⟩,
        ⟨some 30, (Op.load 103 (Operand.tmp 7)), none⟩,
        ⟨some 31, (Op.call { callee := (Callee.value (Operand.func 132)), args := #[(Operand.tmp 30)], argTypes := #[103] }), none⟩,
        ⟨some 32, (Op.buildSlice 141 1 #[(0, (Operand.tmp 31))]), none⟩,
        ⟨some 33, (Op.call { callee := (Callee.builtin Builtin.append), args := #[(Operand.tmp 29), (Operand.tmp 32)], argTypes := #[141, 141] }), none⟩,
        ⟨some 34, (Op.indexAddr 70 (Operand.tmp 24) (Operand.tmp 25)), none⟩,
        ⟨none, (Op.store 141 (Operand.tmp 34) (Operand.tmp 33)), none⟩] [(5, 8), (5, 9)])))
      (.reg false [⟨some 35, (Op.binOp BinOp.add 3 (Operand.tmp 20) (Operand.const (Value.int IntKind.i64 1)) 3), none⟩,
        ⟨some 20, (Op.move (Operand.tmp 35)), none⟩])))))))))
    (.reg false [⟨some 36, (Op.binOp BinOp.add 3 (Operand.tmp 13) (Operand.const (Value.int IntKind.i64 1)) 3), none⟩,
      ⟨some 13, (Op.move (Operand.tmp 36)), none⟩])))))))
  (.seq (.reg false [⟨some 37, (Op.move (Operand.tmp 3)), none⟩,
    ⟨some 2, (Op.assign (Operand.tmp 37)), none⟩])
  .ret))))
noncomputable def b117 : Code := Try.f117.body.getD .skip
theorem hb117 : Try.f117.body = some b117 := by kernel_rfl
theorem sh117 : shortC A117 b117 = c117 := by kernel_rfl
def rs117 : List ResultVar := [(ResultVar.tmp 2)]
theorem hr117 : Try.f117.results.toList = rs117 := by kernel_rfl
/-! parquetry/move.Do (6 parameters; calls 88 parquetry/mesh.Devices, 103 slices.Clone[[]int,int], 109 parquetry/ring.Work, 120 (*parquetry/code.Maker).Devices, 131 (*parquetry/code.Maker).Room, 150 parquetry/move.may, 151 slices.ContainsFunc[[]int,int], 153 parquetry/move.roadOf, 154 (parquetry/move.road).needs, 155 (parquetry/move.road).gather, 156 (parquetry/move.road).cut) -/
def A121 : Ann := { recs := fun i => if i = 8 then [(3, 2), (4, 2)] else [], live := fun i => if i = 6 then [0, 5, 15, 58, 59] else if i = 13 then [0, 15, 17, 73, 74, 75] else if i = 21 then [0, 15, 17, 93, 94] else [], drop := fun i => false }
noncomputable def b121 : Code := Try.f121.body.getD .skip
theorem hb121 : Try.f121.body = some b121 := by kernel_rfl
def rs121 : List ResultVar := [(ResultVar.tmp 12), (ResultVar.tmp 13)]
theorem hr121 : Try.f121.results.toList = rs121 := by kernel_rfl
/-! parquetry/parquetrylaw23.made (1 parameters; calls 16 (*parquetry/parquetrykeep.Tape).Next, 17 (*parquetry/parquetrykeep.Tape).Shape, 18 (*parquetry/parquetrykeep.Tape).Spec, 80 (*parquetry/parquetrykeep.Tape).Tensor) -/
def A53 : Ann := { recs := fun i => if i = 4 then [(0, 8), (0, 14), (1, 8), (1, 14), (1, 15), (8, 7), (9, 7), (10, 7), (11, 7), (12, 7)] else [], drop := fun i => false }
noncomputable def c53 : Cc :=
  (.seq (.reg false [⟨some 2, (Op.alloc 40), none⟩,
    ⟨some 3, (Op.assign (Operand.const (Value.slice none 0 0))), none⟩,
    ⟨some 4, (Op.assign (Operand.const (Value.slice none 0 0))), none⟩,
    ⟨some 5, (Op.assign (Operand.const (Value.slice none 0 0))), none⟩])
  (.seq (.reg false [⟨some 9, (Op.move (Operand.tmp 0)), none⟩,
    ⟨some 10, (Op.build 25 #[(0, (Operand.tmp 9))]), none⟩,
    ⟨some 11, (Op.box 25 (Operand.tmp 10)), none⟩,
    ⟨some 6, (Op.assign (Operand.tmp 11)), none⟩])
  (.seq (.reg false [⟨some 12, (Op.buildSlice 22 1 #[(0, (Operand.const (Value.int IntKind.i64 2)))]), none⟩,
    ⟨some 13, (Op.buildSlice 22 2 #[(0, (Operand.const (Value.int IntKind.i64 2))), (1, (Operand.const (Value.int IntKind.i64 4)))]), none⟩,
    ⟨some 14, (Op.buildSlice 22 2 #[(0, (Operand.const (Value.int IntKind.i64 3))), (1, (Operand.const (Value.int IntKind.i64 2)))]), none⟩,
    ⟨some 15, (Op.buildSlice 22 3 #[(0, (Operand.const (Value.int IntKind.i64 2))), (1, (Operand.const (Value.int IntKind.i64 2))), (2, (Operand.const (Value.int IntKind.i64 2)))]), none⟩,
    ⟨some 16, (Op.buildSlice 22 0 #[]), none⟩,
    ⟨some 17, (Op.buildSlice 22 1 #[(0, (Operand.const (Value.int IntKind.i64 5)))]), none⟩,
    ⟨some 18, (Op.buildSlice 22 2 #[(0, (Operand.const (Value.int IntKind.i64 2))), (1, (Operand.const (Value.int IntKind.i64 2)))]), none⟩,
    ⟨some 19, (Op.buildSlice 26 7 #[(0, (Operand.tmp 12)), (1, (Operand.tmp 13)), (2, (Operand.tmp 14)), (3, (Operand.tmp 15)), (4, (Operand.tmp 16)), (5, (Operand.tmp 17)), (6, (Operand.tmp 18))]), none⟩,
    ⟨some 20, (Op.move (Operand.tmp 6)), none⟩,
    ⟨some 21, (Op.call { callee := (Callee.value (Operand.func 16)), args := #[(Operand.tmp 20), (Operand.const (Value.int IntKind.i64 7))], argTypes := #[23, 3] }), none⟩,
    ⟨some 22, (Op.indexAddr 26 (Operand.tmp 19) (Operand.tmp 21)), none⟩,
    ⟨some 23, (Op.load 22 (Operand.tmp 22)), none⟩,
    ⟨some 7, (Op.assign (Operand.tmp 23)), none⟩])
  (.seq (.reg false [⟨some 24, (Op.move (Operand.tmp 6)), none⟩,
    ⟨some 25, (Op.move (Operand.tmp 6)), none⟩,
    ⟨some 26, (Op.call { callee := (Callee.value (Operand.func 17)), args := #[(Operand.tmp 25)], argTypes := #[23] }), none⟩,
    ⟨some 27, (Op.call { callee := (Callee.value (Operand.func 80)), args := #[(Operand.tmp 24), (Operand.tmp 26)], argTypes := #[23, 22] }), none⟩,
    ⟨some 8, (Op.alloc 40), none⟩,
    ⟨none, (Op.store 40 (Operand.tmp 8) (Operand.tmp 27)), none⟩])
  (.seq (.drw false [⟨some 28, (Op.load 40 (Operand.tmp 8)), none⟩,
    ⟨some 29, (Op.move (Operand.tmp 7)), none⟩,
    ⟨some 30, (Op.move (Operand.tmp 6)), none⟩,
    ⟨some 31, (Op.move (Operand.tmp 7)), none⟩,
    ⟨some 32, (Op.fieldAddr 40 (Operand.tmp 8) 0), none⟩,
    ⟨some 33, (Op.load 22 (Operand.tmp 32)), none⟩,
    ⟨some 34, (Op.call { callee := (Callee.builtin Builtin.len), args := #[(Operand.tmp 33)], argTypes := #[22] }), none⟩,
    ⟨some 35, (Op.call { callee := (Callee.value (Operand.func 18)), args := #[(Operand.tmp 30), (Operand.tmp 31), (Operand.tmp 34)], argTypes := #[23, 22, 3] }), none⟩,
    ⟨some 36, (Op.move (Operand.tmp 6)), none⟩,
    ⟨some 37, (Op.move (Operand.tmp 7)), none⟩,
    ⟨some 38, (Op.fieldAddr 40 (Operand.tmp 8) 0), none⟩,
    ⟨some 39, (Op.load 22 (Operand.tmp 38)), none⟩,
    ⟨some 40, (Op.call { callee := (Callee.builtin Builtin.len), args := #[(Operand.tmp 39)], argTypes := #[22] }), none⟩,
    ⟨some 41, (Op.call { callee := (Callee.value (Operand.func 18)), args := #[(Operand.tmp 36), (Operand.tmp 37), (Operand.tmp 40)], argTypes := #[23, 22, 3] }), none⟩,
    ⟨none, (Op.store 40 (Operand.tmp 2) (Operand.tmp 28)), none⟩,
    ⟨some 3, (Op.assign (Operand.tmp 29)), none⟩,
    ⟨some 4, (Op.assign (Operand.tmp 35)), none⟩,
    ⟨some 5, (Op.assign (Operand.tmp 41)), none⟩] [(0, 8), (0, 14), (11, 7)])
  .ret)))))
noncomputable def b53 : Code := Try.f53.body.getD .skip
theorem hb53 : Try.f53.body = some b53 := by kernel_rfl
theorem sh53 : shortC A53 b53 = c53 := by kernel_rfl
def rs53 : List ResultVar := [(ResultVar.cell 2 40), (ResultVar.tmp 3), (ResultVar.tmp 4), (ResultVar.tmp 5)]
theorem hr53 : Try.f53.results.toList = rs53 := by kernel_rfl
/- Functions in short form. -/
/-! slices.IndexFunc[[]int,int] (2 parameters; calls none) -/
def A169 : Ann := { live := fun i => if i = 2 then [0, 1, 7, 8] else [], drop := fun i => false }
noncomputable def c169 : Cc :=
  (.seq (.reg false [⟨some 4, (Op.assign (Operand.const (Value.int IntKind.i64 0))), none⟩])
  (.seq (.seq (.reg false [⟨some 6, (Op.move (Operand.tmp 0)), none⟩,
    ⟨some 7, (Op.call { callee := (Callee.builtin Builtin.len), args := #[(Operand.tmp 6)], argTypes := #[22] }), none⟩,
    ⟨some 8, (Op.move (Operand.const (Value.int IntKind.i64 0))), none⟩])
  (.block 0 (.loop [0, 1, 7, 8] false
    (.seq (.reg false [⟨some 9, (Op.binOp BinOp.lss 3 (Operand.tmp 8) (Operand.tmp 7) 3), none⟩])
    (.seq (.cond (Operand.tmp 9)
      .skip
      (.exit 0))
    (.seq (.block 1 (.seq (.reg false [⟨some 10, (Op.move (Operand.tmp 8)), none⟩,
      ⟨some 5, (Op.assign (Operand.tmp 10)), none⟩])
    (.seq (.reg false [⟨some 11, (Op.move (Operand.tmp 1)), none⟩,
      ⟨some 12, (Op.move (Operand.tmp 0)), none⟩,
      ⟨some 13, (Op.move (Operand.tmp 5)), none⟩,
      ⟨some 14, (Op.indexAddr 22 (Operand.tmp 12) (Operand.tmp 13)), none⟩,
      ⟨some 15, (Op.load 3 (Operand.tmp 14)), none⟩,
      ⟨some 16, (Op.call { callee := (Callee.value (Operand.tmp 11)), args := #[(Operand.tmp 15)], argTypes := #[3] }), none⟩])
    (.cond (Operand.tmp 16)
      (.seq (.reg false [⟨some 17, (Op.move (Operand.tmp 5)), none⟩,
        ⟨some 4, (Op.assign (Operand.tmp 17)), none⟩])
      .ret)
      .skip))))
    (.reg false [⟨some 18, (Op.binOp BinOp.add 3 (Operand.tmp 8) (Operand.const (Value.int IntKind.i64 1)) 3), none⟩,
      ⟨some 8, (Op.move (Operand.tmp 18)), none⟩])))))))
  (.seq (.reg false [⟨some 4, (Op.assign (Operand.const (Value.int IntKind.i64 (-1)))), none⟩])
  .ret)))
noncomputable def b169 : Code := Try.f169.body.getD .skip
theorem hb169 : Try.f169.body = some b169 := by kernel_rfl
theorem sh169 : shortC A169 b169 = c169 := by kernel_rfl
def rs169 : List ResultVar := [(ResultVar.tmp 4)]
theorem hr169 : Try.f169.results.toList = rs169 := by kernel_rfl
/- Walks: what may be moved (move.may, the document's may, Bound); is one of them below 0? -/
def mayM (sz s f t : List Int) : Bool := meshOK sz && (shapeOK s && (specOK sz f s.length && specOK sz t s.length))
def F150 (args : List AV) (H : Hp) : Option AV := match args with
  | [a, b, c, d] => (ints H a).bind fun sz => (ints H b).bind fun s => (ints H c).bind fun f => (ints H d).map fun t => .bool (mayM sz s f t)
  | _ => none
theorem F150_of {H : Hp} {a b c d : AV} {sz s f t : List Int} (h1 : ints H a = some sz) (h2 : ints H b = some s) (h3 : ints H c = some f) (h4 : ints H d = some t) : F150 [a, b, c, d] H = some (.bool (mayM sz s f t)) := by
  simp [F150, h1, h2, h3, h4]
theorem F150_some {args : List AV} {H : Hp} {v : AV} (h : F150 args H = some v) : ∃ a b c d sz s f t, args = [a, b, c, d] ∧ ints H a = some sz ∧ ints H b = some s ∧ ints H c = some f ∧ ints H d = some t ∧ v = .bool (mayM sz s f t) := by
  unfold F150 at h
  split at h
  · obtain ⟨sz, h1, h⟩ := Option.bind_eq_some_iff.1 h
    obtain ⟨s, h2, h⟩ := Option.bind_eq_some_iff.1 h
    obtain ⟨f, h3, h⟩ := Option.bind_eq_some_iff.1 h
    obtain ⟨t, h4, rfl⟩ := Option.map_eq_some_iff.1 h
    exact ⟨_, _, _, _, _, _, _, _, rfl, h1, h2, h3, h4, rfl⟩
  · cases h
set_option maxHeartbeats 2000000 in
theorem snd150 : Sound Try.prog 150 (FSem.pure F150).run := by
  refine sound_of hT (EOK_cons snd63 (EOK_cons snd89 (EOK_cons snd90 (EOK_nil _)))) mixed A150 Try.func150 hb150 (by kernel_rfl) (by kernel_rfl) (by kernel_rfl) (by kernel_rfl) sh150 4 (by kernel_rfl) rs150 hr150 ?_
  intro args H r H' hw h
  obtain ⟨rfl, hv⟩ := pureAt h
  clear h
  obtain ⟨a, b, c, d, sz, s, f, t, rfl, ha, hb, hc, hd, rfl⟩ := F150_some hv
  clear hv
  have hl := alenS_ints hb
  simp only [← alen22] at hl
  have e1 : F89 [a] H' = some (.bool (meshOK sz)) := by simp [F89, ha]
  have e2 : F90 [b] H' = some (.bool (shapeOK s)) := by simp [F90, hb]
  have e3 : F63 [a, c, .int .i64 s.length] H' = some (.bool (specOK sz f s.length)) := by simp [F63, ha, hc]
  have e4 : F63 [a, d, .int .i64 s.length] H' = some (.bool (specOK sz t s.length)) := by simp [F63, ha, hd]
  clear ha hb hc hd
  refine ⟨rfl, go ?_⟩
  unfold c150
  simp only [argSl]
  unfold mayM
  generalize meshOK sz = q1 at *
  generalize shapeOK s = q2 at *
  generalize specOK sz f s.length = q3 at *
  generalize specOK sz t s.length = q4 at *
  cases q1 <;> cases q2 <;> cases q3 <;> (
    repeat' (first | apply goSeq | apply goReg | apply goSeqN | apply goSeqR | apply goSkip | apply goRet | apply goNil | apply goBlock | apply goExit | apply goBlkN | apply goBlkR | apply goBlkE | apply goSeqE | apply goLoopR | apply goLoopE | refine xOp ?_ | refine xOp0 ?_ | refine xYes ?_ | refine xNo ?_ | refine xNoU ?_ | refine xIfT ?_ | refine xIfF ?_ | refine xIf ?_ ?_ | refine xSplit ?_ ?_ | refine xIfQ ?_ ?_ | refine xSplitQ ?_ ?_ | refine xBlkX ?_ | intro _)
    exact goEnd hw (Pre.refl _) (by simp) (by simp [rs150]; exact rfl) rfl (by simp))
set_option maxHeartbeats 2000000 in
theorem snd118 : Sound Try.prog 118 (FSem.pure F150).run := by
  refine sound_of hT (EOK_cons snd56 (EOK_cons snd58 (EOK_cons snd101 (EOK_nil _)))) mixed A118 Try.func118 hb118 (by kernel_rfl) (by kernel_rfl) (by kernel_rfl) (by kernel_rfl) sh118 4 (by kernel_rfl) rs118 hr118 ?_
  intro args H r H' hw h
  obtain ⟨rfl, hv⟩ := pureAt h
  clear h
  obtain ⟨a, b, c, d, sz, s, f, t, rfl, ha, hb, hc, hd, rfl⟩ := F150_some hv
  clear hv
  have hl := alenS_ints hb
  simp only [← alen22] at hl
  have e1 : F56 [a] H' = some (.bool (meshOK sz)) := by simp [F56, ha, rOK_eq]
  have e2 : F101 [b] H' = some (.bool (shapeOK s)) := by simp [F101, hb, r1OK_eq]
  have e3 : F58 [a, c, .int .i64 s.length] H' = some (.bool (specOK sz f s.length)) := by simp [F58, ha, hc, rSpecOK_eq]
  have e4 : F58 [a, d, .int .i64 s.length] H' = some (.bool (specOK sz t s.length)) := by simp [F58, ha, hd, rSpecOK_eq]
  clear ha hb hc hd
  refine ⟨rfl, go ?_⟩
  unfold c118
  simp only [argSl]
  unfold mayM
  generalize meshOK sz = q1 at *
  generalize shapeOK s = q2 at *
  generalize specOK sz f s.length = q3 at *
  generalize specOK sz t s.length = q4 at *
  cases q1 <;> cases q2 <;> cases q3 <;> (
    repeat' (first | apply goSeq | apply goReg | apply goSeqN | apply goSeqR | apply goSkip | apply goRet | apply goNil | apply goBlock | apply goExit | apply goBlkN | apply goBlkR | apply goBlkE | apply goSeqE | apply goLoopR | apply goLoopE | refine xOp ?_ | refine xOp0 ?_ | refine xYes ?_ | refine xNo ?_ | refine xNoU ?_ | refine xIfT ?_ | refine xIfF ?_ | refine xIf ?_ ?_ | refine xSplit ?_ ?_ | refine xIfQ ?_ ?_ | refine xSplitQ ?_ ?_ | refine xBlkX ?_ | intro _)
    exact goEnd hw (Pre.refl _) (by simp) (by simp [rs118]; exact rfl) rfl (by simp))
/-! ### the bound -/
def boundL (sz s f t : List Int) : Int := if mayM sz s f t = true then 64 * devs sz * devs sz + 64 else 0
def F119 (args : List AV) (H : Hp) : Option AV := match args with
  | [a, b, c, d] => (ints H a).bind fun sz => (ints H b).bind fun s => (ints H c).bind fun f => (ints H d).map fun t => .int .i64 (boundL sz s f t)
  | _ => none
theorem F119_of {H : Hp} {a b c d : AV} {sz s f t : List Int} (h1 : ints H a = some sz) (h2 : ints H b = some s) (h3 : ints H c = some f) (h4 : ints H d = some t) : F119 [a, b, c, d] H = some (.int .i64 (boundL sz s f t)) := by
  simp [F119, h1, h2, h3, h4]
set_option maxHeartbeats 2000000 in
theorem snd119 : Sound Try.prog 119 (FSem.pure F119).run := by
  refine sound_of hT (EOK_cons snd88 (EOK_cons snd150 (EOK_nil _))) mixed A119 Try.func119 hb119 (by kernel_rfl) (by kernel_rfl) (by kernel_rfl) (by kernel_rfl) sh119 4 (by kernel_rfl) rs119 hr119 ?_
  intro args H r H' hw h
  obtain ⟨rfl, hv⟩ := pureAt h
  clear h
  unfold F119 at hv
  split at hv
  rotate_left
  · cases hv
  rename_i a b c d
  obtain ⟨sz, ha, hv⟩ := Option.bind_eq_some_iff.1 hv
  obtain ⟨s, hb, hv⟩ := Option.bind_eq_some_iff.1 hv
  obtain ⟨f, hc, hv⟩ := Option.bind_eq_some_iff.1 hv
  obtain ⟨t, hd, hv⟩ := Option.map_eq_some_iff.1 hv
  cases hv
  have e1 := F150_of ha hb hc hd
  have e2 : F88 [a] H' = some (.int .i64 (devs sz)) := by simp [F88, ha]
  have hn := devs_le sz
  have hn0 : 0 ≤ devs sz := by
    by_cases h : meshOK sz = true
    · have := devs_pos h; omega
    · simp [devs, h]
  clear ha hb hc hd
  refine ⟨rfl, go ?_⟩
  unfold c119
  simp only [argSl]
  unfold boundL
  generalize mayM sz s f t = q at *
  generalize devs sz = n at *
  have h1 : w (64 * n) = 64 * n := w_id (by omega)
  have hm := mul_rng (a := 64 * n) (b := n) (A := 512) (B := 8) (by omega) (by omega)
  have h2 : w (64 * n * n) = 64 * n * n := w_id (by omega)
  have h3 : w (64 * n * n + 64) = 64 * n * n + 64 := w_id (by omega)
  clear hm
  cases q
  · repeat' (first | apply goSeq | apply goReg | apply goSeqN | apply goSeqR | apply goSkip | apply goRet | apply goNil | apply goBlock | apply goExit | apply goBlkN | apply goBlkR | apply goBlkE | apply goSeqE | apply goLoopR | apply goLoopE | refine xOp ?_ | refine xOp0 ?_ | refine xYes ?_ | refine xNo ?_ | refine xNoU ?_ | refine xIfT ?_ | refine xIfF ?_ | refine xIf ?_ ?_ | refine xSplit ?_ ?_ | refine xIfQ ?_ ?_ | refine xSplitQ ?_ ?_ | refine xBlkX ?_ | intro _)
    exact goEnd hw (Pre.refl _) (by simp) (by simp [rs119]; exact rfl) rfl (by simp)
  · repeat' (first | apply goSeq | apply goReg | apply goSeqN | apply goSeqR | apply goSkip | apply goRet | apply goNil | apply goBlock | apply goExit | apply goBlkN | apply goBlkR | apply goBlkE | apply goSeqE | apply goLoopR | apply goLoopE | refine xOp ?_ | refine xOp0 ?_ | refine xYes ?_ | refine xNo ?_ | refine xNoU ?_ | refine xIfT ?_ | refine xIfF ?_ | refine xIf ?_ ?_ | refine xSplit ?_ ?_ | refine xIfQ ?_ ?_ | refine xSplitQ ?_ ?_ | refine xBlkX ?_ | intro _)
    exact goEnd hw (Pre.refl _) (by simp) (by simp [rs119]; exact rfl) rfl (by simp)
/-! ### one below 0? -/
def F152 (args : List AV) (H : Hp) : Option AV := match args with
  | [.int .i64 n] => some (.bool (decide (n < 0)))
  | _ => none
theorem snd152 : Sound Try.prog 152 (FSem.pure F152).run := by
  refine sound_of hT (EOK_nil _) mixed A152 Try.func152 hb152 (by kernel_rfl) (by kernel_rfl) (by kernel_rfl) (by kernel_rfl) sh152 1 (by kernel_rfl) rs152 hr152 ?_
  intro args H r H' hw h
  obtain ⟨rfl, hv⟩ := pureAt h
  clear h
  unfold F152 at hv
  split at hv
  rotate_left
  · cases hv
  cases hv
  refine ⟨rfl, go ?_⟩
  unfold c152
  simp only [argSl]
  repeat' (first | apply goSeq | apply goReg | apply goSeqN | apply goSeqR | apply goSkip | apply goRet | apply goNil | apply goBlock | apply goExit | apply goBlkN | apply goBlkR | apply goBlkE | apply goSeqE | apply goLoopR | apply goLoopE | refine xOp ?_ | refine xOp0 ?_ | refine xYes ?_ | refine xNo ?_ | refine xNoU ?_ | refine xIfT ?_ | refine xIfF ?_ | refine xIf ?_ ?_ | refine xSplit ?_ ?_ | refine xIfQ ?_ ?_ | refine xSplitQ ?_ ?_ | refine xBlkX ?_ | intro _)
  exact goEnd hw (Pre.refl _) (by simp) (by simp [rs152]; exact rfl) rfl (by simp)
def firstNeg : Nat → List Int → Int
  | _, [] => -1
  | i, n :: l => if n < 0 then i else firstNeg (i + 1) l
def F169 (args : List AV) (H : Hp) : Option AV := match args with
  | [v, .func 152 []] => (ints H v).map fun l => .int .i64 (firstNeg 0 l)
  | _ => none
theorem snd169 : Sound Try.prog 169 (FSem.pure F169).run := by
  refine sound_of hT (EOK_cons snd152 (EOK_nil _)) mixed A169 Try.func169 hb169 (by kernel_rfl) (by kernel_rfl) (by kernel_rfl) (by kernel_rfl) sh169 2 (by kernel_rfl) rs169 hr169 ?_
  intro args H r H' hw h
  obtain ⟨rfl, hv⟩ := pureAt h
  clear h
  unfold F169 at hv
  split at hv
  rotate_left
  · cases hv
  rename_i v
  obtain ⟨l, hl, hv⟩ := Option.map_eq_some_iff.1 hv
  cases hv
  have hlen := alenS_ints hl
  have hix := aidxS_ints hl .i64
  have hb := ints_len hl
  have hld := aload_nth T3 rfl hl
  simp only [← aidx22, ← alen22] at hix hlen
  refine ⟨rfl, go ?_⟩
  unfold c169
  simp only [argSl]
  repeat' (first | apply goSeq | apply goReg | apply goSeqN | apply goSeqR | apply goSkip | apply goRet | apply goNil | apply goBlock | apply goExit | apply goBlkN | apply goBlkR | apply goBlkE | apply goSeqE | apply goLoopR | apply goLoopE | refine xOp ?_ | refine xOp0 ?_ | refine xYes ?_ | refine xNo ?_ | refine xNoU ?_ | refine xIfT ?_ | refine xIfF ?_ | refine xIf ?_ ?_ | refine xSplit ?_ ?_ | refine xIfQ ?_ ?_ | refine xSplitQ ?_ ?_ | refine xBlkX ?_ | intro _)
  refine goLoop (fun m s1 H1 => H1 = H' ∧ ∃ i : Nat, m = l.length - i ∧ i ≤ l.length ∧ get s1 0 = v ∧ get s1 1 = .func 152 [] ∧ get s1 7 = .int .i64 l.length ∧ get s1 8 = .int .i64 i ∧ firstNeg i (l.drop i) = firstNeg 0 l) l.length ⟨rfl, 0, rfl, Nat.zero_le _, rfl, rfl, rfl, rfl, rfl⟩ ?_
  rintro m s1 H1 ⟨rfl, i, hm, hi, g1, g2, g3, g4, hgo⟩
  simp only [cut_cons, cut_nil, g1, g2, g3, g4]
  clear g1 g2 g3 g4
  have hwi : w ((i : Int) + 1) = ((i + 1 : Nat) : Int) := w_id (by omega)
  have e152 : ∀ n, F152 [.int .i64 n] H1 = some (.bool (decide (n < 0))) := fun _ => rfl
  by_cases hin : i < l.length
  · have hin' : (i : Int) < l.length := by omega
    have hst : l.drop i = nth l i :: l.drop (i + 1) := by
      rw [List.drop_eq_getElem_cons hin]
      simp [nth, List.getD_eq_getElem?_getD, hin]
    rw [hst] at hgo
    simp only [firstNeg] at hgo
    by_cases hneg : nth l i < 0
    · rw [if_pos hneg] at hgo
      replace hgo := Hide.mk hgo
      repeat' (first | apply goSeq | apply goReg | apply goSeqN | apply goSeqR | apply goSkip | apply goRet | apply goNil | apply goBlock | apply goExit | apply goBlkN | apply goBlkR | apply goBlkE | apply goSeqE | apply goLoopR | apply goLoopE | refine xOp ?_ | refine xOp0 ?_ | refine xYes ?_ | refine xNo ?_ | refine xNoU ?_ | refine xIfT ?_ | refine xIfF ?_ | refine xIf ?_ ?_ | refine xSplit ?_ ?_ | refine xIfQ ?_ ?_ | refine xSplitQ ?_ ?_ | refine xBlkX ?_ | intro _)
      exact goEnd hw (Pre.refl _) (by simp) (by simp [rs169]; exact rfl) rfl (by simp [hgo.out])
    · rw [if_neg hneg] at hgo
      replace hgo := Hide.mk hgo
      repeat' (first | apply goSeq | apply goReg | apply goSeqN | apply goSeqR | apply goSkip | apply goRet | apply goNil | apply goBlock | apply goExit | apply goBlkN | apply goBlkR | apply goBlkE | apply goSeqE | apply goLoopR | apply goLoopE | refine xOp ?_ | refine xOp0 ?_ | refine xYes ?_ | refine xNo ?_ | refine xNoU ?_ | refine xIfT ?_ | refine xIfF ?_ | refine xIf ?_ ?_ | refine xSplit ?_ ?_ | refine xIfQ ?_ ?_ | refine xSplitQ ?_ ?_ | refine xBlkX ?_ | intro _)
      exact goLoopN (l.length - (i + 1)) (by omega) ⟨rfl, i + 1, rfl, by omega, rfl, rfl, rfl, rfl, hgo.out⟩
  · obtain rfl : i = l.length := by omega
    simp [firstNeg] at hgo
    replace hgo := Hide.mk hgo
    repeat' (first | apply goSeq | apply goReg | apply goSeqN | apply goSeqR | apply goSkip | apply goRet | apply goNil | apply goBlock | apply goExit | apply goBlkN | apply goBlkR | apply goBlkE | apply goSeqE | apply goLoopR | apply goLoopE | refine xOp ?_ | refine xOp0 ?_ | refine xYes ?_ | refine xNo ?_ | refine xNoU ?_ | refine xIfT ?_ | refine xIfF ?_ | refine xIf ?_ ?_ | refine xSplit ?_ ?_ | refine xIfQ ?_ ?_ | refine xSplitQ ?_ ?_ | refine xBlkX ?_ | intro _)
    exact goEnd hw (Pre.refl _) (by simp) (by simp [rs169]; exact rfl) rfl (by simp [hgo.out])
theorem firstNeg_ge : ∀ (l : List Int) (i : Nat), decide (0 ≤ firstNeg i l) = l.any fun n => decide (n < 0) := by
  intro l
  induction l with
  | nil => intro i; simp [firstNeg]
  | cons n l ih =>
    intro i
    simp only [firstNeg, List.any_cons]
    by_cases h : n < 0
    · simp [h]
    · simp only [h, if_false]
      simp [ih]
def F151 (args : List AV) (H : Hp) : Option AV := match args with
  | [v, .func 152 []] => (ints H v).map fun l => .bool (l.any fun n => decide (n < 0))
  | _ => none
theorem snd151 : Sound Try.prog 151 (FSem.pure F151).run := by
  refine sound_of hT (EOK_cons snd169 (EOK_nil _)) mixed A151 Try.func151 hb151 (by kernel_rfl) (by kernel_rfl) (by kernel_rfl) (by kernel_rfl) sh151 2 (by kernel_rfl) rs151 hr151 ?_
  intro args H r H' hw h
  obtain ⟨rfl, hv⟩ := pureAt h
  clear h
  unfold F151 at hv
  split at hv
  rotate_left
  · cases hv
  rename_i v
  obtain ⟨l, hl, hv⟩ := Option.map_eq_some_iff.1 hv
  cases hv
  rw [← firstNeg_ge l 0]
  have e : F169 [v, .func 152 []] H' = some (.int .i64 (firstNeg 0 l)) := by simp [F169, hl]
  refine ⟨rfl, go ?_⟩
  unfold c151
  simp only [argSl]
  repeat' (first | apply goSeq | apply goReg | apply goSeqN | apply goSeqR | apply goSkip | apply goRet | apply goNil | apply goBlock | apply goExit | apply goBlkN | apply goBlkR | apply goBlkE | apply goSeqE | apply goLoopR | apply goLoopE | refine xOp ?_ | refine xOp0 ?_ | refine xYes ?_ | refine xNo ?_ | refine xNoU ?_ | refine xIfT ?_ | refine xIfF ?_ | refine xIf ?_ ?_ | refine xSplit ?_ ?_ | refine xIfQ ?_ ?_ | refine xSplitQ ?_ ?_ | refine xBlkX ?_ | intro _)
  exact goEnd hw (Pre.refl _) (by simp) (by simp [rs151]; exact rfl) rfl (by simp)
/- Functions in short form. -/
/-! parquetry/split.Join (4 parameters; calls 21 parquetry/tile.Size, 22 parquetry/tile.From, 63 parquetry/spec.Right, 66 parquetry/spec.First, 88 parquetry/mesh.Devices, 89 parquetry/mesh.Right, 90 parquetry/shape.Right, 91 parquetry/tensor.Right, 92 parquetry/shape.Same, 93 parquetry/tensor.Same, 94 parquetry/tensor.Fill, 95 parquetry/shape.Place, 96 parquetry/shape.Index) -/
/-! parquetry/parquetrylaw17.known (0 parameters; calls 37 parquetry/split.All, 38 parquetry/split.Join) -/
/-! parquetry/parquetrylaw17.SplitBack (1 parameters; calls 20 parquetry/parquetryref14.Devices, 23 parquetry/parquetryref14.Copies, 31 parquetry/parquetrylaw17.made, 36 parquetry/parquetrylaw17.known, 37 parquetry/split.All, 38 parquetry/split.Join, 39 parquetry/parquetryref1.Same) -/
/- Walks: parts put together. -/
section
variable {E : Env} {sh : Bool} {full : List Co} {rs : List (Nat × Nat)} {s : Sl} {H : Hp} {tr : List (Sl × Hp)} {k : Ct}
end
/-! ### what it comes to -/
/- Walks: a tensor, a mesh and a spec of a tape. -/
theorem Fresh.perm {c d : Nat} {a b : List (Nat × Nat)} (h : Fresh c d a) (p : a.Perm b) : Fresh c d b := ⟨p.nodup_iff.1 h.1, fun q hq => h.2 q (p.mem_iff.2 hq)⟩
def seven : List (List Int) := [[2], [2, 4], [3, 2], [2, 2, 2], [], [5], [2, 2]]
theorem litH_rep : ∀ (L : List (List Int)) {H : Hp}, Wf H → ∀ k : Nat, k < L.length → ∃ m b ver, (litH H L).1[k]? = some (.sl b ver 0 m.length 1 true) ∧ L[k]? = some m ∧ (litH H L).2.at b ver = some ⟨ver, m.map (.int .i64), true, true⟩ ∧ H.bs.length ≤ b ∧ H.c ≤ ver ∧ ver < (litH H L).2.c := by
  intro L
  induction L with
  | nil => intro H _ k hk; simp at hk
  | cons l L ih =>
    intro H hw k hk
    cases k with
    | zero =>
      refine ⟨l, _, _, rfl, rfl, (litH_ext L (hw.new _)).pre.at (new_at _ _), Nat.le_refl _, Nat.le_refl _, ?_⟩
      have := (litH_ext L (hw.new (l.map (.int .i64)))).c
      rw [new_c] at this
      show H.c < (litH _ L).2.c
      omega
    | succ k =>
      obtain ⟨m, b, ver, h1, h2, h3, h4, h5, h6⟩ := ih (hw.new (l.map (.int .i64))) k (by simpa using hk)
      rw [new_len] at h4
      rw [new_c] at h5
      exact ⟨m, b, ver, by simpa [litH] using h1, by simpa using h2, h3, by omega, by omega, h6⟩
theorem xdo_bs26_g7 {E : Env} {sh : Bool} {s : Sl} {H : Hp} (x0 x1 x2 x3 x4 x5 x6 : Operand) {v0 v1 v2 v3 v4 v5 v6 : AV} (h0 : ev s x0 = v0) (h1 : ev s x1 = v1) (h2 : ev s x2 = v2) (h3 : ev s x3 = v3) (h4 : ev s x4 = v4) (h5 : ev s x5 = v5) (h6 : ev s x6 = v6)
    (g : [v0, v1, v2, v3, v4, v5, v6].all (fun v => match v with | .sl .. => true | _ => false) = true) :
    xdo E T sh (.buildSlice 26 7 #[(0, x0), (1, x1), (2, x2), (3, x3), (4, x4), (5, x5), (6, x6)]) s H = some (.sl H.bs.length H.c 0 7 1 true, H.new [v0, v1, v2, v3, v4, v5, v6]) := by
  simp only [List.all_cons, List.all_nil, Bool.and_true, Bool.and_eq_true] at g
  obtain ⟨g0, g1, g2, g3, g4, g5, g6⟩ := g
  cases v0 <;> first | cases g0 | skip
  cases v1 <;> first | cases g1 | skip
  cases v2 <;> first | cases g2 | skip
  cases v3 <;> first | cases g3 | skip
  cases v4 <;> first | cases g4 | skip
  cases v5 <;> first | cases g5 | skip
  cases v6 <;> first | cases g6 | skip
  simp [xdo, aop, D26, T22, rep, afill, setAll, AV.cells, AV.one, h0, h1, h2, h3, h4, h5, h6]
/-! ### what it comes to -/
def mdM (l : List Int) : List Int := seven.getD (nextOf l 0 7).toNat []
def mdS (l : List Int) : List Int × Nat := shapeT l (nextOf l (nextAt l 0 7) 4).toNat (nextAt l (nextAt l 0 7) 4)
def mdD (l : List Int) : List Int × Nat := dataT l (sizeOf (mdS l).1).toNat (mdS l).2
def mdP (l : List Int) : List Int × Nat := specT l (mdM l).length (mdS l).1.length (mdD l).2 (List.replicate (mdM l).length false)
theorem seven_len : ∀ m ∈ seven, m.length ≤ 3 := by decide
/- Walks: some of chapter 17's runs. -/
section
variable {E : Env} {s : Sl} {H : Hp} {k : Ct} {l : List Co}
end
/-! ### the numbers -/
/- Functions in short form. -/
/-! parquetry/parquetryref1.Tensor (1 parameters; calls 100 parquetry/parquetryref1.Size, 101 parquetry/parquetryref1.Right) -/
/-! parquetry/parquetryref4.number (2 parameters; calls 42 parquetry/parquetryref1.Index) -/
/-! parquetry/parquetryref4.Slice (3 parameters; calls 41 parquetry/parquetryref1.Place, 70 parquetry/parquetryref1.Fill, 84 parquetry/parquetryref1.Tensor, 163 parquetry/parquetryref4.number) -/
/-! parquetry/parquetryref14.Part (4 parameters; calls 20 parquetry/parquetryref14.Devices, 40 parquetry/parquetryref14.Tile, 84 parquetry/parquetryref1.Tensor, 85 parquetry/parquetryref14.may, 135 parquetry/parquetryref4.Slice) -/
/-! parquetry/parquetryref14.All (3 parameters; calls 20 parquetry/parquetryref14.Devices, 82 parquetry/parquetryref14.Part, 84 parquetry/parquetryref1.Tensor, 85 parquetry/parquetryref14.may) -/
/-! parquetry/parquetryref1.Tensors (2 parameters; calls 39 parquetry/parquetryref1.Same) -/
/-! parquetry/parquetrylaw17.same (4 parameters; calls 34 parquetry/parquetryref14.All, 37 parquetry/split.All, 39 parquetry/parquetryref1.Same, 81 parquetry/split.Part, 82 parquetry/parquetryref14.Part, 83 parquetry/parquetryref1.Tensors) -/
/- Walks: the document's Slice, Part. -/
/-- A part that may be cut out. -/
structure SlOK (p : TS) (FR SZ : List Int) : Prop where
  ok : tOK p = true
  fl : FR.length = p.1.length
  zl : SZ.length = p.1.length
  rng : ∀ i : Nat, i < p.1.length → 0 ≤ nth FR i ∧ 0 ≤ nth SZ i ∧ nth FR i + nth SZ i ≤ nth p.1 i
  sh : shapeOK SZ = true
theorem SlOK.shape {p : TS} {FR SZ : List Int} (h : SlOK p FR SZ) : shapeOK p.1 = true ∧ (p.2.length : Int) = sizeOf p.1 := by
  have := h.ok
  simp only [tOK, Bool.and_eq_true, decide_eq_true_eq] at this
  exact this
/- Plain law of TileShares: mesh by mesh. -/
/- Plain law of TileShares, as a whole. -/
theorem six_ok : ∀ m ∈ six, meshOK m = true ∧ 0 < devs m ∧ devs m ≤ 8 ∧ m.length ≤ 3 := by decide
section
variable {m s p : List Int} (hm : m ∈ six) (hs : ∀ x ∈ s, x ∈ lens) (h3 : s.length ≤ 3) (hl : p.length = s.length) (hp : specGo m.length [] p = true)
include hm hs h3 hl hp
theorem may_six {d : Nat} (hd : (d : Int) < devs m) : mayCut s m p d := by
  refine ⟨shape_3 h3 hs, ?_, by omega, hd⟩
  unfold specOK
  rw [if_neg (by simp [(six_ok m hm).1, hl])]
  exact hp
end
/- Plain law of SplitBack: what is parted is put together as it was. -/
/-! ### writes that are right -/
section
variable {D s fr sh dat : List Int}
end
/-- What a tensor, a mesh and a spec of a tape are. -/
structure Good (S D m P : List Int) : Prop where
  six : m ∈ six
  lens : ∀ x ∈ S, x ∈ lens
  s3 : S.length ≤ 3
  pl : P.length = S.length
  spec : specGo m.length [] P = true
  dl : D.length = (sizeOf S).toNat
section
variable {S D m P : List Int} (g : Good S D m P)
include g
theorem Good.shape : shapeOK S = true := shape_3 g.s3 g.lens
theorem Good.sok : specOK m P S.length = true := (may_six g.six g.lens g.s3 g.pl g.spec (d := 0) (six_ok m g.six).2.1).2.1
theorem Good.tok : tOK (S, D) = true := by
  have := g.dl
  have := sizeOf_nonneg S
  simp only [Pq.tOK, g.shape, Bool.true_and, decide_eq_true_eq]
  omega
theorem Good.may : mayL (S, D) m P = 0 := by
  unfold mayL
  rw [if_neg (by simp [g.tok]), if_neg (by simp [g.sok])]
theorem Good.ct {d : Nat} (h : (d : Int) < devs m) : mayCut S m P d := may_six g.six g.lens g.s3 g.pl g.spec h
theorem Good.dv : (devs m).toNat = devs m ∧ devs m ≤ 8 ∧ 0 < devs m := by have := six_ok m g.six; omega
theorem Good.sz7 {d : Nat} (h : (d : Int) < devs m) : (∀ x ∈ sizeL S m P d, 0 ≤ x ∧ x ≤ 7) ∧ (sizeL S m P d).length = S.length := by
  have hk : ∀ k ∈ P, k < m.length := fun k h => (spec_rng g.spec k h).2
  rw [sizeL_szs g.lens g.pl (g.ct h)]
  exact ⟨szs_rng g.six h S P g.lens hk, szs_len _ _ _ _ g.pl.symm⟩
end
theorem shape_7 {s : List Int} (h3 : s.length ≤ 3) (hr : ∀ x ∈ s, 0 ≤ x ∧ x ≤ 7) : shapeOK s = true := by
  have hp := prodW_3 h3 hr
  have key : ∀ (l : List Int) (n : Int), (∀ x ∈ l, 0 ≤ x ∧ x ≤ 7) → shapeGo n l = decide (prodW n l ≤ 4096) := by
    intro l
    induction l with
    | nil => intro n _; rfl
    | cons k l ih =>
      intro n hl
      have hk := hl k (by simp)
      simp only [shapeGo, prodW]
      rw [if_neg (by omega)]
      exact ih _ fun x hx => hl x (by simp [hx])
  unfold shapeOK
  rw [if_neg (by omega), key s 1 hr]
  simp only [decide_eq_true_eq]
  omega
section
variable {S D m P : List Int} (g : Good S D m P)
include g
theorem Good.part {d : Nat} (h : (d : Int) < devs m) : shapeOK (sizeL S m P d) = true ∧ sizeOf (sizeL S m P d) = prodW 1 (sizeL S m P d) ∧ (partD (S, D) m P d).length = sizeOf (sizeL S m P d) := by
  obtain ⟨h1, h2⟩ := g.sz7 h
  have hs := shape_7 (by have := g.s3; omega) h1
  refine ⟨hs, by simp [sizeOf, hs], ?_⟩
  unfold partD
  rw [madeL_len]
  have := sizeOf_nonneg (sizeL S m P d)
  show ((sizeOf (sizeL S m P d)).toNat : Int) = _
  omega
end
section
variable {S D m P : List Int} (g : Good S D m P)
include g
end
/- Plain law of SplitFirsts: a part that was turned. -/
/-! ### writes beside a place -/
section
variable {s fr sh dat : List Int}
end
/-! ### copies -/
section
variable {S D m P : List Int} (g : Good S D m P)
include g
end
/-! ### parts of a length do not meet -/
section
variable {S D m P : List Int} (g : Good S D m P)
include g
end
section
variable {S D m P : List Int} (g : Good S D m P)
include g
end
/- Walks: SplitBack. -/
theorem made_good {l : List Int} (hr : In64 l) : Good (mdS l).1 (mdD l).1 (mdM l) (mdP l).1 := by
  obtain ⟨hk0, hk1⟩ := next_in hr 0 7 (by omega)
  obtain ⟨hn0, hn3⟩ := next_in hr (nextAt l 0 7) 4 (by omega)
  have h3 : (mdS l).1.length = (nextOf l (nextAt l 0 7) 4).toNat := shapeT_len l _ _
  refine ⟨?_, shapeT_mem hr _ _, by omega, specT_len l _ _ _ _, ?_, dataT_len l _ _⟩
  · have hlt : (nextOf l 0 7).toNat < seven.length := by simp [seven]; omega
    have : mdM l = seven[(nextOf l 0 7).toNat] := by
      simp only [mdM, List.getD_eq_getElem?_getD, List.getElem?_eq_getElem hlt, Option.getD_some]
    rw [this]
    have hsub : ∀ m ∈ seven, m ∈ six := by decide
    exact hsub _ (List.getElem_mem hlt)
  · exact specT_ok hr _ _ _ _ [] (by simp) (by simp)
/- Walks: SplitFirsts. -/
/-! ### the cells of a list of tensors -/
@[simp] theorem fa40_at0 (b v o : Nat) : afaddr' T 40 (.ptr b v o) 0 = some (.ptr b v o) := by simp
/- Walks: the document's Part, All; lists of tensors held against each other; 'same'. -/
/-! ### a part's shape is one -/
/-! ### the document's Part -/
/-! ### the document's All -/
/-! ### lists of tensors held against each other -/
/- Walks: 'same' of the split: program and document part alike. -/
/- An own list is appended to and lives on; regions walked over memories in sight. -/
/-- What is in memory stands, but for what may be written. -/
def PreW (H H' : Hp) : Prop := ∀ (b ver : Nat) (k : Blk), H.at b ver = some k → ∃ k', H'.at b ver = some k' ∧ k'.cells = k.cells
theorem PreW.refl (H : Hp) : PreW H H := fun _ _ k h => ⟨k, h, rfl⟩
theorem PreW.trans {A B C : Hp} (h : PreW A B) (g : PreW B C) : PreW A C := fun b ver k hk => by
  obtain ⟨k1, h1, e1⟩ := h b ver k hk
  obtain ⟨k2, h2, e2⟩ := g b ver k1 h1
  exact ⟨k2, h2, e2.trans e1⟩
theorem Pre.w {H H' : Hp} (h : Pre H H') : PreW H H' := fun _ _ k hk => ⟨k, h.at hk, rfl⟩
theorem PreW.new (H : Hp) (cs : List AV) : PreW H (H.new cs) := ((Pre.refl H).new cs).w
def Hp.shr (H : Hp) (b ver : Nat) (vs ys : List AV) : Hp := ⟨(H.bs.set b ⟨ver, vs, false, false⟩) ++ [⟨H.c, ys, true, false⟩], H.c + 1⟩
theorem PreW.shr {H : Hp} {b ver : Nat} {k : Blk} (hk : H.at b ver = some k) (ys : List AV) : PreW H (H.shr b ver k.cells ys) := by
  intro b' ver' k' hk'
  obtain ⟨g1, g2⟩ := Hp.at_some hk
  obtain ⟨h1, h2⟩ := Hp.at_some hk'
  have hb' := (List.getElem?_eq_some_iff.1 h1).1
  by_cases hbb : b = b'
  · subst hbb
    rw [g1] at h1
    cases h1
    refine ⟨⟨ver, k.cells, false, false⟩, ?_, rfl⟩
    simp only [Hp.at, Hp.shr]
    rw [List.getElem?_append_left (by simpa using hb'), List.getElem?_set_self hb']
    simp only
    rw [if_pos (by omega)]
  · refine ⟨k', ?_, rfl⟩
    simp only [Hp.at, Hp.shr]
    rw [List.getElem?_append_left (by simpa using hb'), List.getElem?_set_ne hbb, h1]
    simp only
    rw [if_pos h2]
theorem SL.own {H0 H : Hp} {L : Lo} (h : SL ⟨H0, []⟩ L H) {i n es : Nat} {f : Bool} {cs : List Tr} {u : AV} (hi : L[i]? = some (u, .sl n es f cs)) : ∃ b ver vs, u = .sl b ver 0 n es f ∧ H.at b ver = some ⟨ver, vs, true, true⟩ ∧ H0.c ≤ ver ∧ vs.length = cs.length := by
  obtain ⟨bs, h1, h2, h3⟩ := h.rx
  obtain ⟨v', b1, b', b2, g1, rfl, g3, _, g5⟩ := RXs.pick _ h1 i _ (getE hi)
  rw [getE hi] at g1
  cases g1
  simp only [RX] at g3
  obtain ⟨b, ver, vs, bs', rfl, hk, hr, rfl⟩ := g3
  refine ⟨b, ver, vs, rfl, hk, ?_, RXs.len _ hr⟩
  rcases h3 (b, ver) (by simp) with h | h
  · exact h
  · simp at h
section
variable {E : Env} {B : Bs} {s : Sl} {L : Lo} {k : Zt}
end
section
variable {E : Env} {sh : Bool} {full : List Co} {rs : List (Nat × Nat)} {s : Sl} {H : Hp} {tr : List (Sl × Hp)} {k : Ct}
end
end Go.Proofs.Ytokadkakmhfdeaa.Pq

/- Each operation of the executor does what the machine's does. -/
import Derived.Test.YtokadkakmhfdeaaPqI
set_option linter.unusedVariables false
set_option linter.unusedSimpArgs false
namespace Go.Proofs.Ytokadkakmhfdeaa.Pq
open Go.RowKit

section
variable {P : Program} {T : Tab} {B0 : Nat} {w0 w : World} {G : Cx} {H : Hp}

/-- The slots. -/
def RF (G : Cx) (s : Sl) (tmps : Array Value) : Prop := ∀ t, RV G (get s t) (tmps.getD t undef)

theorem RF.le {G G' : Cx} {s tmps} (h : RF G s tmps) (hl : Le G G') : RF G' s tmps := fun t => (h t).le hl

theorem RV.ofConst (v : Value) : RV G (ofConst v) v := by
  unfold Pq.ofConst
  split
  · exact .int _ _
  · exact .bool _
  · exact .str _
  · exact .nilS
  · exact .nilP
  · exact .nilF
  · exact .nilI
  · exact .bad _

theorem RF.ev {s : Sl} {a : Act} (h : RF G s a.tmps) (x : Operand) : RV G (ev s x) (a.eval x) := by
  cases x with
  | tmp t => exact h t
  | const v => exact RV.ofConst v
  | global g => exact .bad _
  | func f => exact .func f [] [] .nil
theorem RF.evs {s : Sl} {a : Act} (h : RF G s a.tmps) : ∀ l : List Operand, RVs G (l.map (Pq.ev s)) (l.map a.eval) := by
  intro l
  induction l with
  | nil => exact .nil
  | cons x l ih => exact .cons _ _ _ _ (h.ev x) ih
theorem RF.evo {s : Sl} {a : Act} (h : RF G s a.tmps) (x : Option Operand) : ROV G (x.map (Pq.ev s)) (x.map a.eval) := by
  cases x with
  | none => exact .none
  | some x => exact .some _ _ (h.ev x)

/-- The operation comes to a value. -/
def OkN (P : Program) (B0 : Nat) (w0 : World) (G : Cx) (w : World) (m : Sem Next) (v' : AV) (H' : Hp) : Prop :=
  ∃ x w' G', m.run P w = .ok x w' ∧ Le G G' ∧ St B0 w0 G' H' w' ∧ (∃ v, RV G' v' v ∧ (x = .value v ∨ (x = .skip ∧ v = undef)))

theorem OkV.n {m : Sem Value} {v' : AV} {H' : Hp} (h : OkV P B0 w0 G w m v' H') : OkN P B0 w0 G w (do pure (.value (← m))) v' H' := by
  obtain ⟨v, w', G', h1, h2, h3, h4⟩ := h
  exact ⟨.value v, w', G', by simp [h1], h2, h3, v, h4, .inl rfl⟩
theorem OkV.pure {m : Sem Value} {v' : AV} {v : Value} (hst : St B0 w0 G H w) (h : m.run P w = .ok v w) (hr : RV G v' v) : OkV P B0 w0 G w m v' H := ⟨v, w, G, h, Le.refl G, hst, hr⟩

theorem guard_ok {op : BinOp} {t : Nat} {ox oy : Operand} {x y v : AV} {vx vy : Value} (hx : RV G x vx) (hy : RV G y vy) (h : abin T op t x y = some v) :
    (eqGuard op t ox oy vx vy).run P w = .ok () w := by
  have key : (∃ k n, vy = .int k n) ∨ (∃ b, vy = .bool b) ∨ (∃ s, vy = .string s) ∨ (vy = .slice none 0 0) ∨ (vy = .pointer none) → (eqGuard op t ox oy vx vy).run P w = .ok () w := by
    rintro (⟨k, n, rfl⟩ | ⟨b, rfl⟩ | ⟨s, rfl⟩ | rfl | rfl) <;> cases op <;> cases vx <;> rfl
  apply key
  unfold abin at h
  split at h
  · cases hy; exact .inl ⟨_, _, rfl⟩
  · cases hy; exact .inr (.inr (.inl ⟨_, rfl⟩))
  · cases hy; exact .inr (.inl ⟨_, rfl⟩)
  · split at h
    · cases hy; exact .inr (.inr (.inr (.inl rfl)))
    · cases hy; exact .inr (.inr (.inr (.inl rfl)))
    · cases hy; exact .inr (.inr (.inr (.inr rfl)))
    · cases hy; exact .inr (.inr (.inr (.inr rfl)))
    · cases h

theorem aop_ok (hT : TOK P T) (h : St B0 w0 G H w) {s : Sl} {a : Act} (hs : RF G s a.tmps) {share : Bool} {o : Oper} {v' : AV} {H' : Hp} (ha : aop T share s o.op H = some (v', H')) :
    OkN P B0 w0 G w (execOp a.eval o) v' H' := by
  unfold execOp
  cases hop : o.op <;> simp only [hop, aop] at ha ⊢ <;> first | (cases ha; done) | skip
  case move x => cases ha; exact ⟨_, w, G, rfl, Le.refl G, h, _, hs.ev x, .inl rfl⟩
  case assign x => cases ha; exact ⟨_, w, G, rfl, Le.refl G, h, _, hs.ev x, .inl rfl⟩
  case pick c x y =>
    have hc := hs.ev c
    split at ha
    · rename_i t ht
      rw [ht] at hc
      cases ha
      have hb : a.eval c = .bool t := by
        generalize a.eval c = vc at hc
        cases hc; rfl
      refine ⟨.value (if t = true then a.eval x else a.eval y), w, G, ?_, Le.refl G, h, _, ?_, .inl rfl⟩
      · simp only [hb, asBool, Sem.run_bind, Sem.run_pure, Result.andThen_ok]
      · cases t
        · exact hs.ev y
        · exact hs.ev x
    · cases ha
  case alloc e =>
    obtain ⟨i, hi, hv⟩ := Option.map_eq_some_iff.1 ha
    cases hv
    exact (alloc_ok hT h hi).n
  case box e x =>
    split at ha
    · rename_i h1
      cases ha
      exact (box_ok h (hs.ev x) h1).n
    · cases ha
  case build t ps =>
    have hparts : (ps.toList.map fun p : Nat × Operand => (p.1, Pq.ev s p.2)).map (·.1) = (ps.map fun (i, x) => (i, a.eval x)).toList.map (·.1) := by simp
    have hvals : RVs G ((ps.toList.map fun p : Nat × Operand => (p.1, Pq.ev s p.2)).map (·.2)) ((ps.map fun (i, x) => (i, a.eval x)).toList.map (·.2)) := by
      have := hs.evs (ps.toList.map (·.2))
      simpa [List.map_map, Function.comp_def] using this
    split at ha
    · rename_i i hi
      split at ha
      · rename_i fs hd
        obtain ⟨cs, hc, hv⟩ := Option.map_eq_some_iff.1 ha
        cases hv
        exact (build_ok (ps := (ps.toList.map fun p : Nat × Operand => (p.1, Pq.ev s p.2)).toArray) hT h hi hparts hvals (by simpa using hc) (.inl ⟨fs, hd, rfl⟩)).n
      · rename_i n e hd
        obtain ⟨ie, hie, hb⟩ := Option.bind_eq_some_iff.1 ha
        obtain ⟨cs, hc, hv⟩ := Option.map_eq_some_iff.1 hb
        cases hv
        exact (build_ok (ps := (ps.toList.map fun p : Nat × Operand => (p.1, Pq.ev s p.2)).toArray) hT h hi hparts hvals (by simpa using hc) (.inr ⟨n, e, ie, hd, hie, rfl⟩)).n
      · cases ha
    · cases ha
  case buildSlice t n ps =>
    have hparts : (ps.toList.map fun p : Nat × Operand => (p.1, Pq.ev s p.2)).map (·.1) = (ps.map fun (i, x) => (i, a.eval x)).toList.map (·.1) := by simp
    have hvals : RVs G ((ps.toList.map fun p : Nat × Operand => (p.1, Pq.ev s p.2)).map (·.2)) ((ps.map fun (i, x) => (i, a.eval x)).toList.map (·.2)) := by
      have := hs.evs (ps.toList.map (·.2))
      simpa [List.map_map, Function.comp_def] using this
    split at ha
    · rename_i e hd
      obtain ⟨ie, hie, hb⟩ := Option.bind_eq_some_iff.1 ha
      split at hb
      · rename_i hle
        obtain ⟨cs, hc, hv⟩ := Option.map_eq_some_iff.1 hb
        cases hv
        exact (buildSlice_ok hT h hd hie hle hparts hvals hc).n
      · cases hb
    · cases ha
  case load t x =>
    obtain ⟨v, hv, he⟩ := Option.map_eq_some_iff.1 ha
    cases he
    exact (load_ok hT h (hs.ev x) hv).n
  case store t x y =>
    obtain ⟨H1, hv, he⟩ := Option.map_eq_some_iff.1 ha
    cases he
    obtain ⟨w', h1, h2⟩ := store_ok hT h (hs.ev x) (hs.ev y) hv
    exact ⟨.skip, w', G, by simp [h1], Le.refl G, h2, undef, .bad _, .inr ⟨rfl, rfl⟩⟩
  case nilCheck x =>
    have hx := hs.ev x
    split at ha
    · rename_i b v off he
      rw [he] at hx
      cases ha
      generalize a.eval x = vx at hx
      cases hx with | ptr _ _ _ B o' a1 a2 =>
      exact ⟨_, w, G, rfl, Le.refl G, h, _, .ptr _ _ _ _ _ a1 a2, .inl rfl⟩
    · cases ha
  case binOp op t x y u =>
    obtain ⟨v, hv, he⟩ := Option.map_eq_some_iff.1 ha
    cases he
    obtain ⟨z, h1, h2⟩ := bin_ok (P := P) (w := w) hT (hs.ev x) (hs.ev y) hv
    have hg := guard_ok (P := P) (w := w) (t := t) (ox := x) (oy := y) (hs.ev x) (hs.ev y) hv
    exact ⟨.value z, w, G, by simp [hg, h1], Le.refl G, h, z, h2, .inl rfl⟩
  case unOp op t x =>
    have hx := hs.ev x
    generalize a.eval x = vx at hx
    split at ha
    · rename_i b he
      rw [he] at hx
      cases ha; cases hx
      exact ⟨_, w, G, by simp [Op.unary], Le.refl G, h, _, .bool _, .inl rfl⟩
    · rename_i k n he
      rw [he] at hx
      cases ha; cases hx
      exact ⟨_, w, G, by simp [Op.unary, Op.intArith], Le.refl G, h, _, .int _ _, .inl rfl⟩
    · cases ha
  case convert src t x =>
    have hx := hs.ev x
    generalize a.eval x = vx at hx
    split at ha
    · rename_i i k k' n hsrc hd he
      rw [he] at hx
      cases ha; cases hx
      obtain ⟨d, hd1⟩ := (hT src i hsrc).under
      refine ⟨.value (.int k (k.wrap n)), w, G, ?_, Le.refl G, h, _, .int _ _, .inl rfl⟩
      simp only [convert, Sem.run_bind, run_underlying hd1, run_underlying (desc_int hT hd), Result.andThen_ok, Conv.intToInt, Sem.run_pure]
    · cases ha
  case makeFunc fn first caps =>
    split at ha
    · split at ha
      · rename_i g h0
        cases ha
        have hf : first = #[] := Array.eq_empty_of_size_eq_zero h0
        subst hf
        have := RV.func (G := G) g _ _ (hs.evs caps.toList)
        refine ⟨.value (.func (.func g) #[] (caps.map a.eval)), w, G, by simp [Instr.makeFunc], Le.refl G, h, _, ?_, .inl rfl⟩
        have e : (caps.toList.map a.eval).toArray = caps.map a.eval := by apply Array.ext'; simp
        rwa [e] at this
      · cases ha
    · cases ha
  case makeSlice t l c =>
    have hl := hs.ev l
    have hc := hs.ev c
    generalize a.eval l = vl at hl
    generalize a.eval c = vc at hc
    split at ha
    · rename_i e k n k' m hd h1 h2
      rw [h1] at hl; rw [h2] at hc
      obtain ⟨ie, hie, hb⟩ := Option.bind_eq_some_iff.1 ha
      split at hb
      · rename_i hcond
        obtain ⟨rfl, c1, c2, c3⟩ := hcond
        cases hb; cases hl; cases hc
        exact (makeSlice_ok hT h hd hie c1 c2 c3).n
      · cases hb
    · cases ha
  case slice t x lo hi mx =>
    have hx := hs.ev x
    split at ha
    · rename_i e x' mx' hd
      obtain ⟨ie, hie, hb⟩ := Option.bind_eq_some_iff.1 ha
      obtain ⟨v, hv, he⟩ := Option.map_eq_some_iff.1 hb
      cases he
      obtain ⟨z, h1, h2⟩ := slice_ok (P := P) (w := w) hT hd hie rfl hx (hs.evo lo) (hs.evo hi) (hs.evo _) hv
      exact (OkV.pure h h1 h2).n
    · rename_i z hd he
      obtain ⟨v, hv, he'⟩ := Option.map_eq_some_iff.1 ha
      cases he'
      rw [he] at hx
      generalize a.eval x = vx at hx
      cases hx
      obtain ⟨y, h1, h2⟩ := sliceS_ok (P := P) (w := w) hT hd (hs.evo lo) (hs.evo hi) hv
      exact (OkV.pure h h1 h2).n
    · cases ha
  case fieldAddr t x f =>
    have hx := hs.ev x
    split at ha
    · rename_i fs b v off hd he
      rw [he] at hx
      obtain ⟨p, hp, hb⟩ := Option.bind_eq_some_iff.1 ha
      obtain ⟨i, hi, hb⟩ := Option.bind_eq_some_iff.1 hb
      split at hb
      · cases hb
      · rename_i h0
        cases hb
        obtain ⟨z, h1, h2⟩ := fieldAddr_ok (P := P) (w := w) hT hd hp hi h0 hx
        exact (OkV.pure h h1 h2).n
    · cases ha
  case field t x f =>
    have hx := hs.ev x
    split at ha
    · rename_i fs cs hd he
      rw [he] at hx
      obtain ⟨p, hp, hb⟩ := Option.bind_eq_some_iff.1 ha
      obtain ⟨v, hv, he'⟩ := Option.map_eq_some_iff.1 hb
      cases he'
      obtain ⟨z, h1, h2⟩ := field_ok (P := P) (w := w) hT hd hp hv hx
      exact (OkV.pure h h1 h2).n
    · cases ha
  case indexAddr t x i =>
    have hx := hs.ev x
    have hi := hs.ev i
    generalize a.eval i = vi at hi
    split at ha
    · rename_i e b v off n es full k j hd h1 h2
      rw [h1] at hx; rw [h2] at hi
      cases hi
      obtain ⟨ie, hie, hb⟩ := Option.bind_eq_some_iff.1 ha
      split at hb
      · rename_i hc
        obtain ⟨c1, c2, c3⟩ := hc
        cases hb
        obtain ⟨z, h1, h2⟩ := indexAddr_sl_ok (P := P) (w := w) hT hd hie c1 c2 c3 hx
        exact (OkV.pure h h1 h2).n
      · cases hb
    · rename_i n e b v off k j hd h1 h2
      rw [h1] at hx; rw [h2] at hi
      cases hi
      obtain ⟨ie, hie, hb⟩ := Option.bind_eq_some_iff.1 ha
      split at hb
      · rename_i hc
        obtain ⟨c2, c3⟩ := hc
        cases hb
        obtain ⟨z, h1, h2⟩ := indexAddr_arr_ok (P := P) (w := w) hT hd hie c2 c3 hx
        exact (OkV.pure h h1 h2).n
      · cases hb
    · cases ha
  case index t x i =>
    have hx := hs.ev x
    have hi := hs.ev i
    generalize a.eval i = vi at hi
    split at ha
    · rename_i n e cs k j hd h1 h2
      rw [h1] at hx; rw [h2] at hi
      cases hi
      obtain ⟨ie, hie, hb⟩ := Option.bind_eq_some_iff.1 ha
      split at hb
      · rename_i hc
        obtain ⟨c2, c3⟩ := hc
        obtain ⟨v, hv, he'⟩ := Option.map_eq_some_iff.1 hb
        cases he'
        obtain ⟨z, h1, h2⟩ := index_arr_ok (P := P) (w := w) hT hd hie c2 c3 hv hx
        exact (OkV.pure h h1 h2).n
      · cases hb
    · rename_i z k j hd h1 h2
      rw [h1] at hx; rw [h2] at hi
      generalize a.eval x = vx at hx
      cases hx; cases hi
      split at ha
      · rename_i h0
        obtain ⟨c, hc, he'⟩ := Option.map_eq_some_iff.1 ha
        cases he'
        refine (OkV.pure h (v := .int .u8 c.toNat) ?_ (.int _ _)).n
        simp [Instr.index, asIntOf, run_underlying (desc_str hT hd), h0, hc]
      · cases ha
    · cases ha
  case extract x i =>
    have hx := hs.ev x
    split at ha
    · rename_i vs he
      rw [he] at hx
      obtain ⟨v, hv, he'⟩ := Option.map_eq_some_iff.1 ha
      cases he'
      generalize a.eval x = vx at hx
      cases hx with | tup _ us hr =>
      obtain ⟨z, h1, h2⟩ := hr.get hv
      refine (OkV.pure h (v := z) ?_ h2).n
      simp [Instr.extract, h1]
    · cases ha
  case call c =>
    obtain ⟨callee, args, tys⟩ := c
    cases callee <;> simp only at ha <;> first | (cases ha; done) | skip
    rename_i b
    obtain ⟨args⟩ := args
    obtain ⟨tys⟩ := tys
    simp only at ha
    have hgo : ∀ (m : Sem Value), (∀ cs, builtin b tys.toArray o.type cs (args.map a.eval).toArray = (do pure (.value (← m)))) → OkV P B0 w0 G w m v' H' →
        OkN P B0 w0 G w (do let d ← resolve a.eval { callee := .builtin b, args := args.toArray, argTypes := tys.toArray } o.type; invoke d.target d.args) v' H' := by
      intro m hm hok
      obtain ⟨x, w', G', h1, h2⟩ := hok.n
      refine ⟨x, w', G', ?_, h2⟩
      simp only [resolve, Sem.run_bind, Sem.run_pure, Result.andThen_ok, invoke, List.map_toArray, hm]
      simpa using h1
    split at ha
    · rename_i x t
      have hx := hs.ev x
      refine hgo (Builtin.len_ #[t] o.type #[a.eval x]) (fun _ => rfl) ?_
      generalize a.eval x = vx at hx
      split at ha
      · rename_i e hd he
        rw [he] at hx; cases ha; cases hx
        exact OkV.pure h (by simp [Builtin.len_, run_underlying (desc_slice hT hd), goInt]) (.int _ _)
      · rename_i e hd he
        rw [he] at hx; cases ha
        cases hx <;> exact OkV.pure h (by simp [Builtin.len_, run_underlying (desc_slice hT hd), goInt]) (.int _ _)
      · rename_i e b ver off n es full hd he
        rw [he] at hx; cases ha
        cases hx
        exact OkV.pure h (by simp [Builtin.len_, run_underlying (desc_slice hT hd), goInt]) (.int _ _)
      · rename_i z hd he
        rw [he] at hx; cases ha; cases hx
        exact OkV.pure h (by simp [Builtin.len_, run_underlying (desc_str hT hd), goInt]) (.int _ _)
      · rename_i n e hd
        cases ha
        refine OkV.pure h (v := .int .i64 n) ?_ (.int _ _)
        simp only [Builtin.len_, List.getElem?_toArray, List.getElem?_cons_zero, Sem.run_bind, run_underlying (desc_array hT hd), Result.andThen_ok, goInt]
        cases vx <;> rfl
      · cases ha
    · rename_i x y t u
      refine hgo (Builtin.append_ #[t, u] o.type #[a.eval x, a.eval y]) (fun _ => rfl) ?_
      split at ha
      · rename_i e e' hd hd'
        obtain ⟨ie, hie, hb⟩ := Option.bind_eq_some_iff.1 ha
        exact append_ok hT h hd hd' hie (hs.ev x) (hs.ev y) hb _
      · cases ha
    · rename_i x y t u
      refine hgo (Builtin.copy_ #[t, u] o.type #[a.eval x, a.eval y]) (fun _ => rfl) ?_
      split at ha
      · rename_i e hd
        obtain ⟨ie, hie, hb⟩ := Option.bind_eq_some_iff.1 ha
        exact copy_ok hT h hd hie (hs.ev x) (hs.ev y) hb _
      · cases ha
    · rename_i ts x y
      have hx := hs.ev x
      have hy := hs.ev y
      refine hgo (Builtin.min_ tys.toArray o.type #[a.eval x, a.eval y]) (fun _ => rfl) ?_
      generalize a.eval x = vx at hx
      generalize a.eval y = vy at hy
      split at ha
      · rename_i k p k' q h1 h2
        rw [h1] at hx; rw [h2] at hy
        split at ha
        · rename_i hk
          subst hk
          cases ha; cases hx; cases hy
          refine OkV.pure h (run_min_int2 w _ _ _ _ _ _) ?_
          by_cases hle : p ≤ q
          · rw [if_pos hle, if_neg (by omega)]; exact .int _ _
          · rw [if_neg hle, if_pos (by omega)]; exact .int _ _
        · cases ha
      · cases ha
    · rename_i ts x y
      have hx := hs.ev x
      have hy := hs.ev y
      refine hgo (Builtin.max_ tys.toArray o.type #[a.eval x, a.eval y]) (fun _ => rfl) ?_
      generalize a.eval x = vx at hx
      generalize a.eval y = vy at hy
      split at ha
      · rename_i k p k' q h1 h2
        rw [h1] at hx; rw [h2] at hy
        split at ha
        · rename_i hk
          subst hk
          cases ha; cases hx; cases hy
          refine OkV.pure h (run_max_int2 w _ _ _ _ _ _) ?_
          by_cases hle : q ≤ p
          · rw [if_pos hle, if_neg (by omega)]; exact .int _ _
          · rw [if_neg hle, if_pos (by omega)]; exact .int _ _
        · cases ha
      · cases ha
    · cases ha

end
end Go.Proofs.Ytokadkakmhfdeaa.Pq

/- More operations: build, make, slices, arithmetic. -/
import Derived.Test.YtokadkakmhfdeaaPqC
set_option linter.unusedVariables false
set_option linter.unusedSimpArgs false
namespace Go.Proofs.Ytokadkakmhfdeaa.Pq
open Go.RowKit

section
variable {P : Program} {T : Tab} {B0 : Nat} {w0 w : World} {G : Cx} {H : Hp}

theorem TyOK.under {t i} (h : TyOK P t i) : ∃ d, P.underlying t = some d := by
  have hd := h.desc
  cases hi : i.d <;> simp only [hi] at hd <;> first
    | exact ⟨_, hd⟩
    | (obtain ⟨f, h1, _⟩ := hd; exact ⟨_, h1⟩)
    | (obtain ⟨a, b, v, h1⟩ := hd; exact ⟨_, h1⟩)

theorem RVs.ofGet {as : List AV} {vs : List Value} (hl : as.length = vs.length) (h : ∀ (i : Nat) (a : AV) (v : Value), as[i]? = some a → vs[i]? = some v → RV G a v) : RVs G as vs := by
  induction as generalizing vs with
  | nil => cases vs with | nil => exact .nil | cons _ _ => simp at hl
  | cons a as ih => cases vs with
    | nil => simp at hl
    | cons v vs => exact .cons _ _ _ _ (h 0 a v rfl rfl) (ih (by simpa using hl) fun i x y hx hy => h (i + 1) x y (by simpa using hx) (by simpa using hy))

theorem foldl_set (off : Nat) : ∀ (vs : List Value) (k : Nat) (cells : Array Value),
    (vs.zipIdx k).foldl (fun cs (p : Value × Nat) => cs.setIfInBounds (off + p.2) p.1) cells = (setAllV cells.toList (off + k) vs).toArray := by
  intro vs
  induction vs with
  | nil => intro k cells; simp [setAllV]
  | cons v vs ih =>
    intro k cells
    simp only [List.zipIdx_cons, List.foldl_cons, ih, setAllV, Array.toList_setIfInBounds]
    rfl

theorem fill_ok {pl pl' : Nat → Option (Nat × Nat)} (hpl : ∀ j x, pl j = some x → pl' j = some x) : ∀ (ps : List (Nat × AV)) (qs : List (Nat × Value)) (cells out : List AV) (vcells : List Value),
    RVs G cells vcells → ps.map (·.1) = qs.map (·.1) → RVs G (ps.map (·.2)) (qs.map (·.2)) → afill pl cells ps = some out →
    ∃ vo, Instr.fill pl' vcells.toArray qs = some vo ∧ RVs G out vo.toList := by
  intro ps
  induction ps with
  | nil =>
    intro qs cells out vcells hr h1 h2 hf
    cases qs with
    | nil => simp [afill] at hf; subst hf; exact ⟨_, rfl, by simpa using hr⟩
    | cons _ _ => simp at h1
  | cons p ps ih =>
    intro qs cells out vcells hr h1 h2 hf
    cases qs with
    | nil => simp at h1
    | cons q qs =>
      obtain ⟨i, a⟩ := p
      obtain ⟨i', v⟩ := q
      simp only [List.map_cons, List.cons.injEq] at h1 h2
      obtain ⟨rfl, h1⟩ := h1
      cases h2 with | cons _ _ _ _ ha h2 =>
      simp only [afill] at hf
      split at hf
      · cases hf
      · rename_i x off size hp
        split at hf
        · cases hf
        · rename_i hc
          have c1 : a.cells.length = size := by
            rcases Nat.decEq a.cells.length size with e | e
            · exact absurd (.inl e) hc
            · exact e
          have c2 : ¬ off + a.cells.length > cells.length := fun e => hc (.inr (.inl e))
          have c3 : a.cells.all AV.one = true := by
            cases e : a.cells.all AV.one with
            | true => rfl
            | false => exact absurd (.inr (.inr e)) hc
          have hbad : a ≠ .bad := by rintro rfl; simp [AV.cells, AV.one] at c3
          have htup : ∀ cs, a ≠ .tup cs := by rintro cs rfl; simp [AV.cells, AV.one] at c3
          have hcells := ha.cells hbad htup
          have hlen := hcells.length
          simp at hlen
          have hl2 := hr.length
          obtain ⟨vo, h3, h4⟩ := ih qs (setAll cells off a.cells) out (setAllV vcells off v.cells.toList) (RVs.setAll off hr hcells) h1 h2 hf
          refine ⟨vo, ?_, h4⟩
          simp only [Instr.fill, hpl i _ hp]
          rw [if_neg (by simp; omega)]
          have e : v.cells.zipIdx.foldl (fun cs x => match x with | (c, j) => cs.setIfInBounds (off + j) c) vcells.toArray = (setAllV vcells off v.cells.toList).toArray := by
            rw [← Array.foldl_toList, Array.toList_zipIdx]
            have := foldl_set off v.cells.toList 0 vcells.toArray
            simpa using this
          rw [← h3]
          congr 1

theorem rep_length (z : List AV) : ∀ n, (rep n z).length = n * z.length := by
  intro n; induction n with
  | zero => simp [rep]
  | succ n ih => simp [rep, ih, Nat.add_mul, Nat.add_comm]
theorem rep_get (z : List AV) : ∀ (n i : Nat), i < n * z.length → (rep n z)[i]? = z[i % z.length]? := by
  intro n; induction n with
  | zero => intro i h; simp at h
  | succ n ih =>
    intro i h
    simp only [rep, List.getElem?_append]
    split
    · rw [Nat.mod_eq_of_lt (by assumption)]
    · rename_i hi
      have hi : z.length ≤ i := Nat.le_of_not_lt hi
      rw [ih (i - z.length) (by rw [Nat.succ_mul] at h; omega)]
      congr 1
      rw [← Nat.mod_eq_sub_mod hi]
theorem rep_ok {z : List AV} {zv : Array Value} (h : RVs G z zv.toList) (n : Nat) : RVs G (rep n z) (madeCells zv (n * z.length)).toList := by
  have hl := h.length
  simp at hl
  refine RVs.ofGet (by simp [rep_length, madeCells]) fun i a v ha hv => ?_
  have hi : i < n * z.length := by
    have := (List.getElem?_eq_some_iff.1 ha).1
    rwa [rep_length] at this
  rw [rep_get z n i hi] at ha
  obtain ⟨u, hu, hr⟩ := h.get ha
  have hz : 0 < z.length := Nat.pos_of_ne_zero fun e => by simp [e] at hi
  simp only [madeCells, Array.toList_map, Array.toList_range, List.getElem?_map, List.getElem?_range hi, Option.map_some, Option.some.injEq] at hv
  have hm : i % zv.size < zv.size := Nat.mod_lt _ (by omega)
  rw [getElem!_pos zv (i % zv.size) hm] at hv
  rw [hl] at hu
  simp [hm] at hu
  rw [← hv, hu]; exact hr

theorem rep_all (z : List AV) (hz : z.all AV.one = true) : ∀ n, (rep n z).all AV.one = true := by
  intro n; induction n with
  | zero => rfl
  | succ n ih => simp only [rep, List.all_append, hz, ih, Bool.and_self]
theorem afill_all {pl : Nat → Option (Nat × Nat)} : ∀ (ps : List (Nat × AV)) (c o : List AV), c.all AV.one = true → afill pl c ps = some o → o.all AV.one = true := by
  intro ps
  induction ps with
  | nil => intro c o h1 h; simp [afill] at h; rw [← h]; exact h1
  | cons p ps ih =>
    intro c o h1 h
    obtain ⟨i, a⟩ := p
    simp only [afill] at h
    split at h
    · cases h
    · split at h
      · cases h
      · rename_i hc
        refine ih _ _ (all_setAll _ _ _ h1 ?_) h
        cases e : a.cells.all AV.one with
        | true => rfl
        | false => exact absurd (.inr (.inr e)) hc
theorem makeSlice_ok (hT : TOK P T) (h : St B0 w0 G H w) {t e : Nat} {ie : TI} {k k' : IntKind} {n : Int} (ht : Tab.d T t = .slice e) (he : T e = some ie)
    (h0 : 0 ≤ n) (hb : (ie.bytes : Int) * n ≤ 281474976710656) (hn : n ≤ 281474976710656) :
    OkV P B0 w0 G w (Instr.makeSlice t (.int k n) (.int k' n)) (.sl H.bs.length H.c 0 n.toNat ie.size true) (H.new (rep n.toNat ie.zero)) := by
  obtain ⟨it, h1, h2⟩ := Tab.d_eq ht (by simp)
  have hd := (hT t it h1).desc
  simp only [h2] at hd
  obtain ⟨q, z, i1, i2, i3, i4, i5, i6, i7⟩ := (hT e ie he).info
  have hr := run_make (P := P) w t e q z hd i1 i4 k k' n n h0 (Int.le_refl _) (by rw [i3]; exact hb) (by omega)
  have hrep := rep_ok (i5 G) n.toNat
  rw [i6, ← i2] at hrep
  obtain ⟨G', hl, hst, hmu, hsz⟩ := h.alloc _ _ e hrep (rep_all _ i7 _)
  refine ⟨_, _, G', hr, hl, by simpa using hst, ?_⟩
  refine .sl _ _ _ _ _ _ w.heap.size 0 _ _ ?_ hmu (Nat.le_refl _) (fun _ => rfl) fun _ => ⟨by simp, ?_⟩
  · have := hst.c; simp [Hp.new] at this; omega
  · rw [hsz]; simp [madeCells, i2]

theorem buildSlice_ok (hT : TOK P T) (h : St B0 w0 G H w) {t e n : Nat} {ie : TI} (ht : Tab.d T t = .slice e) (he : T e = some ie) (hn : n * ie.size ≤ 16777216)
    {ps : List (Nat × AV)} {qs : Array (Nat × Value)} {cs : List AV} (h1 : ps.map (·.1) = qs.toList.map (·.1)) (h2 : RVs G (ps.map (·.2)) (qs.toList.map (·.2)))
    (hf : afill (fun j => some (j * ie.size, ie.size)) (rep n ie.zero) ps = some cs) :
    OkV P B0 w0 G w (Instr.buildSlice t n qs) (.sl H.bs.length H.c 0 n ie.size true) (H.new cs) := by
  obtain ⟨it, h3, h4⟩ := Tab.d_eq ht (by simp)
  have hd := (hT t it h3).desc
  simp only [h4] at hd
  obtain ⟨q, z, i1, i2, i3, i4, i5, i6, i7⟩ := (hT e ie he).info
  have hrep := rep_ok (i5 G) n
  rw [i6] at hrep
  have hlen : cs.length = n * ie.size := by
    have : ∀ (ps : List (Nat × AV)) (c o : List AV), afill (fun j => some (j * ie.size, ie.size)) c ps = some o → o.length = c.length := by
      intro ps
      induction ps with
      | nil => intro c o h; simp [afill] at h; rw [h]
      | cons p ps ih =>
        intro c o h
        obtain ⟨i, a⟩ := p
        simp only [afill] at h
        split at h
        · cases h
        · rw [ih _ _ h, length_setAll]
    rw [this _ _ _ hf, rep_length, i6]
  obtain ⟨vo, hv1, hv2⟩ := fill_ok (G := G) (pl' := fun j => some (j * ie.size, ie.size)) (fun _ _ h => h) ps qs.toList _ cs _ hrep h1 h2 hf
  obtain ⟨G', hl, hst, hmu, hsz⟩ := h.alloc cs vo.toList e hv2 (afill_all _ _ _ (rep_all _ i7 _) hf)
  have hvl := hv2.length
  refine ⟨.slice (some ⟨w.heap.size, 0, none⟩) n n, _, G', ?_, hl, by simpa using hst, ?_⟩
  · have hrs := run_sizeOf (hT e ie he) w
    have hz : (zeroValue e).run P w = .ok z w := by simp [zeroValue, typeInfo, i1, i4]
    by_cases h0 : n * ie.size = 0
    · have hv1' : Instr.fill (fun i => some (i * ie.size, ie.size)) #[] qs.toList = some vo := by
        rw [← hv1]; simp [madeCells, h0, Array.range_zero']
      simp [Instr.buildSlice, underlying, hd, hrs, h0, hv1', newRow, Array.range_zero']
    · have hv1' : Instr.fill (fun i => some (i * ie.size, ie.size)) ((Array.range (n * ie.size)).map (z.cells[· % z.cells.size]!)) qs.toList = some vo := by
        rw [← hv1]; congr 1
      simp [Instr.buildSlice, underlying, hd, hrs, h0, hz, hv1', newRow, show ¬ 16777216 < n * ie.size by omega]
  · refine .sl _ _ _ _ _ _ w.heap.size 0 _ _ ?_ hmu (Nat.le_refl _) (fun _ => rfl) fun _ => ⟨by simp, ?_⟩
    · have := hst.c; simp [Hp.new] at this; omega
    · rw [hsz, ← hvl, hlen]; omega


def fsz (f : Field) : Sem (Nat × Nat) := do pure (f.offset, ← sizeOf f.type)
theorem build_ok (hT : TOK P T) (h : St B0 w0 G H w) {t : Nat} {ps : Array (Nat × AV)} {qs : Array (Nat × Value)} {pl : Nat → Option (Nat × Nat)} {i : TI} {cs : List AV} (hi : T t = some i)
    (h1 : ps.toList.map (·.1) = qs.toList.map (·.1)) (h2 : RVs G (ps.toList.map (·.2)) (qs.toList.map (·.2))) (hf : afill pl i.zero ps.toList = some cs)
    (hpl : (∃ fs, i.d = .struct fs ∧ pl = fun j => (fs[j]?).bind fun f => (T f.2).map fun i => (f.1, i.size)) ∨ (∃ n e ie, i.d = .array n e ∧ T e = some ie ∧ pl = fun j => some (j * ie.size, ie.size))) :
    OkV P B0 w0 G w (Instr.build t qs) (.agg cs) H := by
  have ht := hT t i hi
  obtain ⟨z, hz, hr, _⟩ := run_zero ht w
  have hd := ht.desc
  have hrun : ∀ pl' : Nat → Option (Nat × Nat), (∀ j x, pl j = some x → pl' j = some x) → ∃ vo, Instr.fill pl' z.cells qs.toList = some vo ∧ RVs G cs vo.toList := by
    intro pl' hp
    have := fill_ok (G := G) hp ps.toList qs.toList i.zero cs z.cells.toList (hr G) h1 h2 hf
    simpa using this
  rcases hpl with ⟨fs, h3, h4⟩ | ⟨n, e, ie, h3, h4, h5⟩
  · simp only [h3] at hd
    obtain ⟨fields, h5, h6⟩ := hd
    obtain ⟨h7, h8⟩ := h6
    have hsz : ∀ (l : List Field) (W : World), l.all (fun f => (P.info? f.type).isSome) = true →
        (l.mapM fsz).run P W = .ok (l.map fun f => (f.offset, ((P.info? f.type).map (·.size)).getD 0)) W := by
      intro l
      induction l with
      | nil => intro W _; simp
      | cons f l ih =>
        intro W hq
        simp only [List.all_cons, Bool.and_eq_true] at hq
        obtain ⟨q, hq1⟩ := Option.isSome_iff_exists.1 hq.1
        have hf : (fsz f).run P W = .ok (f.offset, q.size) W := by simp [fsz, sizeOf, typeInfo, hq1]
        simp [hf, ih W hq.2, hq1]
    have harr : (fields.mapM fsz).run P w = .ok (fields.toList.map fun f => (f.offset, ((P.info? f.type).map (·.size)).getD 0)).toArray w := by
      rw [Array.mapM_eq_mapM_toList]
      simp [hsz _ w h8]
    obtain ⟨vo, hv1, hv2⟩ := hrun (fun j => (fields.toList.map fun f => (f.offset, ((P.info? f.type).map (·.size)).getD 0)).toArray[j]?) (by
      intro j x hx
      rw [h4] at hx
      simp only [← h7, List.getElem?_map, Option.bind_eq_some_iff, Option.map_eq_some_iff] at hx
      obtain ⟨a, ⟨f, hf1, rfl⟩, ie, hie, rfl⟩ := hx
      obtain ⟨q, z', i1, i2, _⟩ := (hT f.type ie hie).info
      simp only [List.getElem?_toArray, List.getElem?_map, hf1, Option.map_some, i1, Option.getD_some, i2])
    refine ⟨.agg vo, w, G, ?_, Le.refl G, h, by simpa using RV.agg cs vo.toList hv2⟩
    have e : (fun f : Field => (do pure (f.offset, ← sizeOf f.type) : Sem (Nat × Nat))) = fsz := rfl
    simp only [Instr.build, Sem.run_bind, hz, Result.andThen_ok, underlying, run_program, h5, Sem.run_pure, e, harr, hv1]
  · simp only [h3] at hd
    obtain ⟨vo, hv1, hv2⟩ := hrun (fun j => some (j * ie.size, ie.size)) (by intro j x hx; rw [h5] at hx; exact hx)
    refine ⟨.agg vo, w, G, ?_, Le.refl G, h, by simpa using RV.agg cs vo.toList hv2⟩
    simp [Instr.build, hz, underlying, hd, run_sizeOf (hT e ie h4), hv1]

end
end Go.Proofs.Ytokadkakmhfdeaa.Pq

/- append and copy. -/
import Derived.Test.YtokadkakmhfdeaaPqF
set_option linter.unusedVariables false
set_option linter.unusedSimpArgs false
namespace Go.Proofs.Ytokadkakmhfdeaa.Pq
open Go.RowKit

section
variable {P : Program} {T : Tab} {B0 : Nat} {w0 w : World} {G : Cx} {H : Hp}

/-- The cells of a slice, read by the machine. -/
theorem slCells_ok (h : St B0 w0 G H w) {x : AV} {vx : Value} {m es : Nat} {xs : List AV} (hx : RV G x vx) (hc : slCells H x = some (m, xs)) (hes : xs.length = m * es) :
    (Builtin.lenOf vx).run P w = .ok m w ∧ ∀ m', m' ≤ m → ∃ ys : Array Value, (Builtin.firstCells es m' vx).run P w = .ok ys w ∧ RVs G (xs.take (m' * es)) ys.toList := by
  cases hx <;> simp only [slCells] at hc
  case nilS =>
    cases hc
    refine ⟨by simp [Builtin.lenOf], fun m' hm => ⟨#[], by simp [Builtin.firstCells], by simp; exact .nil⟩⟩
  case mt1 =>
    cases hc
    refine ⟨by simp [Builtin.lenOf], fun m' hm => ⟨#[], by simp [Builtin.firstCells], by simp; exact .nil⟩⟩
  case mt2 x =>
    cases hc
    refine ⟨by simp [Builtin.lenOf], fun m' hm => ⟨#[], ?_, by simp; exact .nil⟩⟩
    have hm0 : m' = 0 := by omega
    subst hm0
    have := run_loadCells_list (P := P) w x [] (fun j v hj => by simp at hj)
    simpa [Builtin.firstCells] using this
  case sl b ver off n es' full B o A cap a1 a2 a3 a4 a5 =>
    split at hc
    · rename_i k hk
      split at hc
      · rename_i hle
        simp only [Option.some.injEq, Prod.mk.injEq] at hc
        obtain ⟨rfl, rfl⟩ := hc
        obtain ⟨cs, e, fr, hh, hlen, hrv, _, hsz⟩ := h.cellsAt hk a2
        refine ⟨by simp [Builtin.lenOf], fun m' hm => ?_⟩
        have hes' : n * es' = n * es := by
          rw [← hes, List.length_take, List.length_drop]; omega
        have hmul : m' * es ≤ n * es := Nat.mul_le_mul_right _ hm
        by_cases h0 : m' * es = 0
        · refine ⟨#[], ?_, by simp [h0]; exact .nil⟩
          simp only [Builtin.firstCells, h0, loadCells, loadCellsFrom]
          rfl
        · have hcap : cap ≠ 0 := by
            rintro rfl
            have : n = 0 := by omega
            subst this
            simp at hmul; omega
          obtain ⟨rfl, hb⟩ := a5 hcap
          refine ⟨_, run_loadCells_at hh (o + off) (m' * es) (by omega), ?_⟩
          have := (hrv.drop off).take (m' * es)
          rw [List.drop_take, List.take_take, List.drop_drop, Nat.min_eq_left (by omega)] at this
          rw [List.take_take, Nat.min_eq_left (by omega)]
          simpa using this
      · cases hc
    · cases hc
  all_goals cases hc

theorem slCells_all (h : St B0 w0 G H w) {x : AV} {m : Nat} {xs : List AV} (hc : slCells H x = some (m, xs)) : xs.all AV.one = true := by
  cases x <;> simp only [slCells] at hc
  case nilS => cases hc; rfl
  case mtS => cases hc; rfl
  case sl b ver off n es full =>
    split at hc
    · rename_i k hk
      split at hc
      · simp only [Option.some.injEq, Prod.mk.injEq] at hc
        rw [← hc.2]
        have := h.ones b k (Hp.at_some hk).1
        simp only [List.all_eq_true] at this ⊢
        intro y hy
        exact this y (List.mem_of_mem_drop (List.mem_of_mem_take hy))
      · cases hc
    · cases hc
  all_goals cases hc
theorem grow_le (need old : Nat) (h : old < need) : Builtin.nextslicecap need old ≤ 2 * need := by
  unfold Builtin.nextslicecap
  split
  · omega
  · split
    · omega
    · have : ∀ r c, 256 ≤ c → c < 2 * need → Builtin.growBy need r c ≤ 2 * need := by
        intro r
        induction r with
        | zero => intro c _ h2; simp [Builtin.growBy]; omega
        | succ r ih =>
          intro c h1 h2
          simp only [Builtin.growBy]
          split
          · omega
          · by_cases h3 : c + (c + 768) / 4 < 2 * need
            · exact ih _ (by omega) h3
            · have : c + (c + 768) / 4 = 2 * need := by omega
              cases r with
              | zero => simp only [Builtin.growBy]; omega
              | succ r => simp only [Builtin.growBy]; rw [if_pos (by omega)]; omega
      exact this 4 old (by omega) (by omega)

/-- append, what is appended to a new block. -/
theorem append_new (hT : TOK P T) (h : St B0 w0 G H w) {t u e e' : Nat} {ie : TI} (ht : Tab.d T t = .slice e) (hu : Tab.d T u = .slice e') (he : T e = some ie)
    {base : Option Addr} {n cap m : Nat} {vx : Value} {xs ss : List AV} {ys zs : Array Value} (hlx : (Builtin.lenOf vx).run P w = .ok m w)
    (hfx : (Builtin.firstCells ie.size m vx).run P w.drew = .ok ys w.drew) (hfs : (Builtin.firstCells ie.size n (.slice base n cap)).run P w.drew = .ok zs w.drew)
    (hxs : RVs G xs ys.toList) (hss : RVs G ss zs.toList) (hsl : ss.length = n * ie.size) (hxl : xs.length = m * ie.size) (hgrow : cap < n + m) (hb : (n + m) * ie.bytes ≤ maxBytes) (hb0 : ie.bytes ≠ 0) (ty : Nat)
    (b : Nat) (bs' : List Blk) (nk : Blk) (hnk : nk.ver = H.c) (hss1 : ss.all AV.one = true) (hxs1 : xs.all AV.one = true) (hcells : nk.cells = ss ++ xs) (hbs : ∀ x, x ≠ b → bs'[x]? = H.bs[x]?) (hbn : bs'[b]? = some nk) :
    OkV P B0 w0 G w (Builtin.append_ #[t, u] ty #[.slice base n cap, vx]) (.sl b H.c 0 (n + m) ie.size false) ⟨bs', H.c + 1⟩ := by
  have hut := desc_slice hT ht
  have huu := desc_slice hT hu
  obtain ⟨q, z, i1, i2, i3, i4, i5, i6, _⟩ := (hT e ie he).info
  have hsz := run_sizeOf (hT e ie he)
  have hw : ∀ w' : World, (typeInfo e).run P w' = .ok q w' := fun w' => by simp [typeInfo, i1]
  have hzero : ∀ w' : World, (zeroValue e).run P w' = .ok z w' := fun w' => by simp [zeroValue, typeInfo, i1, i4]
  have hcap0 := grow_le (n + m) cap hgrow
  have hng : ¬ Builtin.nextslicecap (n + m) cap * q.bytes > 2 ^ 48 := by
    have : Builtin.nextslicecap (n + m) cap * q.bytes ≤ 2 * (n + m) * q.bytes := Nat.mul_le_mul_right _ hcap0
    rw [i3, Nat.mul_assoc] at this
    rw [i3]
    simp only [maxBytes] at hb
    omega
  let nc := grownCap w (n + m) cap e
  have hge : n + m ≤ nc := grownCap_ge w (n + m) cap e
  have hrun : (Builtin.append_ #[t, u] ty #[.slice base n cap, vx]).run P w =
      .ok (.slice (some ⟨w.heap.size, 0, none⟩) (n + m) nc) (w.drew.alloc (.cells (zs ++ ys ++ Builtin.zeroCells z.cells (nc - (n + m))) e)) := by
    have hcut : (Question.appendCap (n + m) cap e).cut (w.tape w.drawn (Question.appendCap (n + m) cap e)) = nc := rfl
    have hforced : (Question.appendCap (n + m) cap e).forced = false := rfl
    simp only [Builtin.append_, List.getElem?_toArray, List.getElem?_cons_zero, List.getElem?_cons_succ, Sem.run_bind, run_underlying hut, run_underlying huu, Result.andThen_ok, hsz w, hlx, Sem.run_pure, Bool.false_eq_true, if_false, Sem.run_ite]
    rw [if_neg (by omega)]
    simp only [hw, Result.andThen_ok, Sem.run_bind, Sem.run_ite]
    rw [if_neg (by rw [i3]; simp; omega), if_neg hng]
    simp only [run_choose, hforced, Bool.false_eq_true, if_false, hcut, Result.andThen_ok, run_askRoom, World.drew_eq, hfs, Bool.not_false, if_true, hfx, hzero, newRow, Sem.run_bind, run_newObj, Sem.run_pure, World.alloc_eq]
    rfl
  have hzl : (Builtin.zeroCells z.cells (nc - (n + m))).size = (nc - (n + m)) * ie.size := by
    rw [size_zeroCells]; congr 1
    have := (i5 G).length; simp at this; omega
  have hyl := hxs.length
  have hzl2 := hss.length
  simp at hyl hzl2
  have hd := h.drew
  obtain ⟨G', hl, hst, hmu, hsz'⟩ := hd.update b bs' nk w.heap.size 0 (w.drew.alloc (.cells (zs ++ ys ++ Builtin.zeroCells z.cells (nc - (n + m))) e)) (zs ++ ys ++ Builtin.zeroCells z.cells (nc - (n + m))) e (0, 0)
    hnk (by rw [hcells, List.all_append, hss1, hxs1]; rfl) hbs hbn (hd.below.alloc (by simpa using h.base) _) (by have := h.base; simp; omega) (heap_alloc_new w.drew _)
    (fun X x hX hx => heap_alloc_lt _ _ hx) (.inl (Nat.le_refl _)) (by rw [hcells]; simp; omega)
    (by
      rw [hcells, List.drop_zero]
      have e1 : (zs ++ ys ++ Builtin.zeroCells z.cells (nc - (n + m))).toList.take (ss ++ xs).length = zs.toList ++ ys.toList := by
        simp only [Array.toList_append, List.length_append]
        rw [List.take_left' (by simp; omega)]
      rw [e1]
      exact hss.append hxs)
    (fun _ => ⟨rfl, h.base⟩)
    (fun x k o hx hk hm => by
      obtain ⟨cs, e1, fr, hh, _⟩ := h.maps x k.ver _ o (by rw [h.c]; exact (h.blk x k hk).1) hm
      exact absurd (Array.getElem?_eq_some_iff.1 hh).1 (Nat.lt_irrefl _))
    (fun x k B o hx hk hm hlt => by
      have hlt : B < w.heap.size := hlt
      exact ⟨fun _ => by omega, fun _ e => by omega, fun _ => by omega, fun _ e => by omega⟩)
  refine ⟨_, _, G', hrun, hl, hst, ?_⟩
  refine .sl _ _ _ _ _ _ w.heap.size 0 _ _ (by have := hst.c; simp at this; omega) hmu hge (by simp) fun _ => ⟨rfl, ?_⟩
  rw [hsz']
  simp only [Array.size_append, hzl]
  obtain ⟨r, hr⟩ : ∃ r, nc = n + m + r := ⟨nc - (n + m), by omega⟩
  have hr2 : nc - (n + m) = r := by omega
  rw [hr2]
  show 0 + 0 + nc * ie.size ≤ _
  rw [hr, Nat.add_mul, Nat.add_mul]
  omega

end
end Go.Proofs.Ytokadkakmhfdeaa.Pq
